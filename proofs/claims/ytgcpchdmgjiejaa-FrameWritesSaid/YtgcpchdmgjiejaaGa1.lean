/-
  The abstract evaluator: what it answers the machine comes to.
-/
import Derived.Calls
import Derived.Orders
import Derived.Below
import Derived.Laws.Cells
import Derived.Laws.StructEq
import Derived.Laws.Append
import Derived.Laws.BytesString
set_option linter.all false
section
/-
  The abstract evaluator: values, heaps, operations and code over lists, without addresses of the machine.
-/
namespace Go.Ab

/-- Abstract values. A pointer names an abstract block and an offset; a slice a block, an offset, a length and its elements' size in cells. -/
inductive AV where
  | junk
  | bool (b : Bool)
  | int (k : IntKind) (n : Int)
  | str (s : List UInt8)
  | nilptr
  | ptr (b o : Nat)
  | nilsl
  | sl (b o n sz : Nat)
  | nilmap
  | map (b : Nat)
  | nilfunc
  | func (f : FuncId) (first caps : List AV)
  | niliface
  | iface (t : TypeId) (v : AV)
  | agg (cs : List AV)
  | tuple (vs : List AV)
  deriving Inhabited

/-- A block: cells (ro: not to be written), or a map. -/
inductive ABlk where
  | cells (ro : Bool) (cs : List AV)
  | mp (es : List (AV × AV))
  deriving Inhabited

abbrev AHeap := List (Option ABlk)
abbrev Env := Nat → AV
abbrev Res := Option (AV × AHeap)

/-- The cells of a value that fills memory. -/
def acells : AV → Option (List AV)
  | .junk => none
  | .tuple _ => none
  | .agg cs => some cs
  | v => some [v]
def isCell : AV → Bool
  | .junk => false
  | .tuple _ => false
  | .agg _ => false
  | _ => true

def hget (h : AHeap) (b : Nat) : Option ABlk := (h[b]?).join
/-- A new block of cells, at the number h.length. -/
def hnew (h : AHeap) (cs : List AV) : AHeap := h ++ [some (.cells false cs)]
def hset (h : AHeap) (b : Nat) (cs : List AV) : AHeap := h.set b (some (.cells false cs))

/-- The value at a place: one cell, or an aggregate of sz cells. -/
def aload (ag : Bool) (sz : Nat) (x : AV) (h : AHeap) : Option AV :=
  match x with
  | .ptr b o =>
    match hget h b with
    | some (.cells _ cs) => if ag then (if o + sz ≤ cs.length then some (.agg ((cs.drop o).take sz)) else none) else cs[o]?
    | _ => none
  | _ => none
def splice (cs : List AV) (o : Nat) (vs : List AV) : List AV := cs.take o ++ vs ++ cs.drop (o + vs.length)
def astore (ag : Bool) (sz : Nat) (x v : AV) (h : AHeap) : Option AHeap :=
  match x with
  | .ptr b o =>
    match hget h b with
    | some (.cells false cs) =>
      if ag then
        match v with
        | .agg vs => if o + sz ≤ cs.length ∧ vs.length = sz ∧ vs.all isCell = true then some (hset h b (splice cs o vs)) else none
        | _ => none
      else if o < cs.length ∧ isCell v = true then some (hset h b (cs.set o v)) else none
    | _ => none
  | _ => none

/-- Constants. -/
def scal : Value → AV
  | .bool b => .bool b
  | .int k n => .int k n
  | .string s => .str s.data.toList
  | .pointer none => .nilptr
  | .slice none 0 0 => .nilsl
  | .map none => .nilmap
  | .nilFunc => .nilfunc
  | .nilIface => .niliface
  | _ => .junk
def ofConst : Value → AV
  | .agg cs => .agg (cs.toList.map scal)
  | .tuple cs => .tuple (cs.toList.map scal)
  | v => scal v
def ev (n : Nat) (env : Env) : Operand → AV
  | .tmp t => if t < n then env t else .tuple []
  | .const v => ofConst v
  | .func f => .func f [] []
  | .global _ => .junk
def aput (n : Nat) (env : Env) (d : Option Tmp) (v : AV) : Env :=
  match d with
  | some d => if d < n then (fun i => if i = d then v else env i) else env
  | none => env
def isConst : Operand → Bool
  | .const _ => true
  | _ => false

/-- What the tables say of a type. -/
def tsz (P : Program) (t : TypeId) : Option Nat := (P.info? t).map (·.size)
def tby (P : Program) (t : TypeId) : Option Nat := (P.info? t).map (·.bytes)
def tagg (P : Program) (t : TypeId) : Option Bool := (P.underlying t).map fun | .struct _ => true | .array _ _ => true | _ => false
def tzero (P : Program) (t : TypeId) : Option (List AV) := ((P.info? t).bind (·.zero)).map fun v => v.cells.toList.map scal
def telem (P : Program) (t : TypeId) : Option TypeId := (P.underlying t).bind fun | .slice e => some e | _ => none

/-- Binary operations on scalars. -/
def aint (op : BinOp) (k k' : IntKind) (a b : Int) : Option AV :=
  match op with
  | .shl => if b < 0 then none else some (.int k (k.wrap (a * 2 ^ (min b.toNat k.bits))))
  | .shr => if b < 0 then none else some (.int k (a.fdiv (2 ^ (min b.toNat k.bits))))
  | op =>
    if k = k' then
      match op with
      | .add => some (.int k (k.wrap (a + b)))
      | .sub => some (.int k (k.wrap (a - b)))
      | .mul => some (.int k (k.wrap (a * b)))
      | .quo => if b = 0 then none else some (.int k (k.wrap (a.tdiv b)))
      | .rem => if b = 0 then none else some (.int k (a.tmod b))
      | .and => some (.int k (k.wrap (BitVec.ofInt k.bits a &&& BitVec.ofInt k.bits b).toNat))
      | .or => some (.int k (k.wrap (BitVec.ofInt k.bits a ||| BitVec.ofInt k.bits b).toNat))
      | .xor => some (.int k (k.wrap (BitVec.ofInt k.bits a ^^^ BitVec.ofInt k.bits b).toNat))
      | .andNot => some (.int k (k.wrap (BitVec.ofInt k.bits a &&& ~~~ (BitVec.ofInt k.bits b)).toNat))
      | .eql => some (.bool (a == b))
      | .neq => some (.bool (a != b))
      | .lss => some (.bool (decide (a < b)))
      | .leq => some (.bool (decide (a ≤ b)))
      | .gtr => some (.bool (decide (a > b)))
      | .geq => some (.bool (decide (a ≥ b)))
      | _ => none
    else none
def astr (op : BinOp) (a b : List UInt8) : Option AV :=
  match op with
  | .add => if a.length + b.length ≤ 9223372036854775807 then some (.str (a ++ b)) else none
  | .eql => some (.bool (a == b))
  | .neq => some (.bool !(a == b))
  | .lss => some (.bool (Op.bytesLess a b))
  | .leq => some (.bool (Op.bytesLess a b || a == b))
  | .gtr => some (.bool !(Op.bytesLess a b || a == b))
  | .geq => some (.bool !(Op.bytesLess a b))
  | _ => none
/-- A part of an aggregate. -/
def apart (ag : Bool) (sz off : Nat) (cs : List AV) : Option AV := if ag then some (.agg ((cs.drop off).take sz)) else cs[off]?
/-- Equality, by the type. -/
def aeqIn (P : Program) : Nat → TypeId → AV → AV → Option Bool
  | 0, _, _, _ => none
  | d + 1, t, x, y =>
    match P.underlying t, x, y with
    | some .bool, .bool a, .bool b => some (a == b)
    | some (.int _), .int k a, .int k' b => if k = k' then some (a == b) else none
    | some .string, .str a, .str b => some (a == b)
    | some (.pointer _), .nilptr, .nilptr => some true
    | some (.pointer _), .nilptr, .ptr _ _ => some false
    | some (.pointer _), .ptr _ _, .nilptr => some false
    | some (.interface _), .niliface, .niliface => some true
    | some (.interface _), .niliface, .iface _ _ => some false
    | some (.interface _), .iface _ _, .niliface => some false
    | some (.interface _), .iface tx vx, .iface ty vy =>
      if tx = ty then (if ((P.info? tx).map (·.comparable)) = some true then aeqIn P d tx vx vy else none) else some false
    | some (.struct fs), .agg xs, .agg ys =>
      if P.stoodInHeld t then none else
      fs.toList.foldr (fun f rest =>
        if f.name = "_" then rest else
        (tagg P f.type).bind fun ag => (tsz P f.type).bind fun sz => (apart ag sz f.offset xs).bind fun a => (apart ag sz f.offset ys).bind fun b =>
          (aeqIn P d f.type a b).bind fun r => if r then rest else some false) (some true)
    | some (.array len e), .agg xs, .agg ys =>
      (tagg P e).bind fun ag => (tsz P e).bind fun sz =>
      (List.range len).foldr (fun i rest => (apart ag sz (i * sz) xs).bind fun a => (apart ag sz (i * sz) ys).bind fun b =>
          (aeqIn P d e a b).bind fun r => if r then rest else some false) (some true)
    | some (.slice _), .nilsl, .nilsl => some true
    | some (.slice _), .nilsl, .sl _ _ _ _ => some false
    | some (.slice _), .sl _ _ _ _, .nilsl => some false
    | some (.map _ _), .nilmap, .nilmap => some true
    | some (.map _ _), .nilmap, .map _ => some false
    | some (.map _ _), .map _, .nilmap => some false
    | some (.func _ _ _), .nilfunc, .nilfunc => some true
    | some (.func _ _ _), .nilfunc, .func _ _ _ => some false
    | some (.func _ _ _), .func _ _ _, .nilfunc => some false
    | _, _, _ => none
/-- The guard of an equality of interface values: not both nil, unless one is the literal nil. -/
def aeqOk (P : Program) (t : TypeId) (x y : Operand) (a b : AV) : Bool :=
  match a, b with
  | .niliface, .niliface => isConst x || isConst y
  | .agg _, .agg _ => !(P.eqGuardType P.depth t)
  | _, _ => true
def abin (P : Program) (op : BinOp) (t : TypeId) (cx : Bool) (x y : AV) : Option AV :=
  match x, y with
  | .int k a, .int k' b => aint op k k' a b
  | .str a, .str b => astr op a b
  | x, y =>
    if cx then
      match op with
      | .eql => (aeqIn P Op.maxDepth t x y).map .bool
      | .neq => (aeqIn P Op.maxDepth t x y).map fun b => .bool !b
      | _ => none
    else none
def aun (op : UnOp) (x : AV) : Option AV :=
  match op, x with
  | .neg, .int k n => some (.int k (k.wrap (0 - n)))
  | .xor, .int k n => some (.int k (k.wrap (BitVec.ofInt k.bits (if k.signed then -1 else k.max) ^^^ BitVec.ofInt k.bits n).toNat))
  | .not, .bool b => some (.bool !b)
  | _, _ => none

/-- Bytes of a slice. -/
def abytes : List AV → Option (List UInt8)
  | [] => some []
  | .int .u8 n :: r => (abytes r).map (UInt8.ofNat n.toNat :: ·)
  | _ => none
def ofBytes (s : List UInt8) : List AV := s.map fun b => .int .u8 b.toNat
/-- The cells of a slice (or a string), as many elements as it has. -/
def asrc (sz : Nat) (x : AV) (h : AHeap) : Option (List AV) :=
  match x with
  | .nilsl => some []
  | .sl b o n sz' =>
    if sz' = sz then
      match hget h b with
      | some (.cells _ cs) => if o + n * sz ≤ cs.length then some ((cs.drop o).take (n * sz)) else none
      | _ => none
    else none
  | .str s => if sz = 1 then some (ofBytes s) else none
  | _ => none
def alenOf : AV → Option Nat
  | .nilsl => some 0
  | .sl _ _ n _ => some n
  | .str s => some s.length
  | _ => none
def alen (P : Program) (t : TypeId) (x : AV) : Option Nat :=
  match P.underlying t, x with
  | some .string, .str s => some s.length
  | some (.array n _), _ => some n
  | some (.slice _), .nilsl => some 0
  | some (.slice _), .sl _ _ n _ => some n
  | _, _ => none
/-- append: the old block is gone, the new one has what stood there and what comes behind. -/
def aapp (sz bytes : Nat) (s : AV) (m : Nat) (xs : List AV) (h : AHeap) : Option (AV × AHeap) :=
  if m = 0 then
    match s with
    | .nilsl => some (s, h)
    | .sl _ _ _ _ => some (s, h)
    | _ => none
  else
    match s with
    | .nilsl => if m * bytes ≤ 140737488355328 ∧ xs.all isCell = true then some (.sl h.length 0 m sz, hnew h xs) else none
    | .sl b o n sz' =>
      if sz' = sz then
        match hget h b with
        | some (.cells false cs) =>
          if o + n * sz ≤ cs.length ∧ (n + m) * bytes ≤ 140737488355328 ∧ xs.all isCell = true then
            some (.sl h.length 0 (n + m) sz, hnew (h.set b none) ((cs.drop o).take (n * sz) ++ xs)) else none
        | _ => none
      else none
    | _ => none
/-- copy. -/
def acopy (sz : Nat) (d x : AV) (h : AHeap) : Option (AV × AHeap) :=
  (alenOf x).bind fun n => (asrc sz x h).bind fun cs =>
    match d with
    | .nilsl => some (.int .i64 0, h)
    | .sl b o m sz' =>
      if sz' = sz then
        match hget h b with
        | some (.cells false ds) =>
          if o + m * sz ≤ ds.length ∧ cs.all isCell = true then some (.int .i64 (min n m : Nat), hset h b (splice ds o (cs.take (min n m * sz)))) else none
        | _ => none
      else none
    | _ => none
/-- Bounds of a slice expression. -/
def abound (x : Option AV) (dflt y : Nat) : Option Nat :=
  match x with
  | none => some dflt
  | some (.int _ i) => if 0 ≤ i ∧ i ≤ y then some i.toNat else none
  | _ => none
def aslice (P : Program) (t : TypeId) (x : AV) (lo hi : Option AV) (h : AHeap) : Option AV :=
  match P.underlying t with
  | some .string =>
    match x with
    | .str s => (abound hi s.length s.length).bind fun j => (abound lo 0 j).bind fun i => some (.str ((s.take j).drop i))
    | _ => none
  | some (.slice e) => (tsz P e).bind fun sz =>
    match x with
    | .nilsl => (abound hi 0 0).bind fun j => (abound lo 0 j).bind fun _ => some .nilsl
    | .sl b o n sz' => if sz' = sz then (abound hi n n).bind fun j => (abound lo 0 j).bind fun i => some (.sl b (o + i * sz) (j - i) sz) else none
    | _ => none
  | some (.array n e) => (tsz P e).bind fun sz =>
    match x with
    | .ptr b o =>
      match hget h b with
      | some (.cells _ cs) =>
        if o + n * sz ≤ cs.length ∧ 0 < sz then (abound hi n n).bind fun j => (abound lo 0 j).bind fun i => some (.sl b (o + i * sz) (j - i) sz) else none
      | _ => none
    | _ => none
  | _ => none
def afill (place : Nat → Option (Nat × Nat)) (cells : List AV) : List (Nat × AV) → Option (List AV)
  | [] => some cells
  | (i, v) :: rest =>
    match place i, acells v with
    | some (off, size), some vs => if vs.length = size ∧ off + vs.length ≤ cells.length then afill place (splice cells off vs) rest else none
    | _, _ => none
def abuild (P : Program) (t : TypeId) (parts : List (Nat × AV)) : Option AV :=
  (tzero P t).bind fun z =>
  match P.underlying t with
  | some (.struct fs) => (fs.toList.mapM fun f => (tsz P f.type).map fun s => (f.offset, s)).bind fun ps => (afill (fun i => ps[i]?) z parts).map .agg
  | some (.array _ e) => (tsz P e).bind fun sz => (afill (fun i => some (i * sz, sz)) z parts).map .agg
  | _ => none
def aconv (P : Program) (src dst : TypeId) (x : AV) (h : AHeap) : Option AV :=
  match P.underlying src, P.underlying dst, x with
  | some _, some (.int k), .int _ n => some (.int k (k.wrap n))
  | some _, some .string, .str s => some (.str s)
  | some (.slice e), some .string, x =>
    match P.underlying e with
    | some (.int .u8) => (asrc 1 x h).bind fun cs => (abytes cs).map .str
    | _ => none
  | _, _, _ => none
def afield (P : Program) (t : TypeId) (f : Nat) : Option (TypeId × Nat) :=
  (P.underlying t).bind fun | .struct fs => (fs[f]?).map fun x => (x.type, x.offset) | _ => none
def aptr (x : AV) (off : Nat) : Option AV := match x with | .ptr b o => some (.ptr b (o + off)) | _ => none
def aindexAddr (P : Program) (t : TypeId) (x i : AV) : Option AV :=
  match P.underlying t, i with
  | some (.array len e), .int _ i => (tsz P e).bind fun sz => if 0 ≤ i ∧ i < len then aptr x (i.toNat * sz) else none
  | some (.slice e), .int _ i => (tsz P e).bind fun sz =>
    match x with
    | .sl b o n sz' => if sz' = sz ∧ 0 ≤ i ∧ i < n then some (.ptr b (o + i.toNat * sz)) else none
    | _ => none
  | _, _ => none
def aindex (P : Program) (t : TypeId) (x i : AV) : Option AV :=
  match P.underlying t, x, i with
  | some (.array len e), .agg cs, .int _ i => (tagg P e).bind fun ag => (tsz P e).bind fun sz => if 0 ≤ i ∧ i < len then apart ag sz (i.toNat * sz) cs else none
  | some .string, .str s, .int _ i => if 0 ≤ i then (s[i.toNat]?).map fun b => .int .u8 b.toNat else none
  | _, _, _ => none
def afieldOf (P : Program) (t : TypeId) (x : AV) (f : Nat) : Option AV :=
  (afield P t f).bind fun p => (tagg P p.1).bind fun ag => (tsz P p.1).bind fun sz => match x with | .agg cs => apart ag sz p.2 cs | _ => none
def aassert (P : Program) (x : AV) (asserted : TypeId) (ok : Bool) : Option AV :=
  match P.underlying asserted with
  | some (.interface want) =>
    match x with
    | .niliface => if ok then (((P.info? asserted).bind (·.zero)).map fun v => .tuple [ofConst v, .bool false]) else none
    | .iface t _ =>
      match P.info? t with
      | some i => match Instr.missingMethod want i.methods with
        | none => some (if ok then .tuple [x, .bool true] else x)
        | some _ => if ok then (((P.info? asserted).bind (·.zero)).map fun v => .tuple [ofConst v, .bool false]) else none
      | none => none
    | _ => none
  | some _ =>
    match x with
    | .niliface => if ok then (((P.info? asserted).bind (·.zero)).map fun v => .tuple [ofConst v, .bool false]) else none
    | .iface t v => if t = asserted then some (if ok then .tuple [v, .bool true] else v)
      else if ok then (((P.info? asserted).bind (·.zero)).map fun v => .tuple [ofConst v, .bool false]) else none
    | _ => none
  | none => none
def aextract (x : AV) (i : Nat) : Option AV := match x with | .tuple vs => vs[i]? | _ => none
def apick (c a b : AV) : Option AV := match c with | .bool true => some a | .bool false => some b | _ => none
def anil (x : AV) : Option AV :=
  match x with
  | .ptr _ _ => some x
  | .func _ _ _ => some x
  | _ => none
def aminmax (mx : Bool) : AV → List AV → Option AV
  | x, [] => match x with | .int _ _ => some x | _ => none
  | .int k x, .int _ y :: r => aminmax mx (.int k (if mx then (if y > x then y else x) else (if y < x then y else x))) r
  | _, _ => none
def amake (P : Program) (e : TypeId) (l c : AV) (h : AHeap) : Option (AV × AHeap) :=
  (tsz P e).bind fun sz => (tby P e).bind fun by' => (tzero P e).bind fun z =>
  match l, c with
  | .int _ l, .int _ c =>
    if 0 ≤ l ∧ l ≤ c ∧ c * by' ≤ 70368744177664 ∧ c ≤ 70368744177664 ∧ z.length = sz ∧ 0 < sz then
      some (.sl h.length 0 l.toNat sz, hnew h (List.flatten (List.replicate c.toNat z))) else none
  | _, _ => none
def abuildSlice (P : Program) (e : TypeId) (len : Nat) (parts : List (Nat × AV)) (h : AHeap) : Option (AV × AHeap) :=
  (tsz P e).bind fun sz => (tzero P e).bind fun z =>
    if z.length = sz ∧ 0 < sz ∧ len * sz ≤ 16777216 then
      (afill (fun i => some (i * sz, sz)) (List.flatten (List.replicate len z)) parts).map fun cs => (.sl h.length 0 len sz, hnew h cs)
    else none
def callable (P : Program) (f : FuncId) : Bool :=
  match P.funcs[f]? with
  | some fn => fn.name != "runtime.NumGoroutine" && fn.body.isSome
  | none => false
def amethod (P : Program) (t : TypeId) (name : String) : Option FuncId :=
  (P.info? t).bind fun i =>
  match i.methods.find? (·.name == name) with
  | some m =>
    if m.path.isEmpty then
      match m.func, P.underlying t with
      | some (f, true), some (.pointer _) => some f
      | some (_, false), some (.pointer _) => none
      | some (f, false), some _ => some f
      | _, _ => none
    else none
  | none => none

/-- One operation. -/
def aop (P : Program) (call : FuncId → List AV → AHeap → Res) {R : Type} (o : Oper) (e : Operand → AV) (h : AHeap) (K : AV → AHeap → Option R) : Option R :=
  match o.op with
  | .move x => K (e x) h
  | .assign x => K (e x) h
  | .pick c a b => (apick (e c) (e a) (e b)).bind fun v => K v h
  | .alloc t => (tzero P t).bind fun z => K (.ptr h.length 0) (hnew h z)
  | .box _ x => (acells (e x)).bind fun cs => K (.ptr h.length 0) (hnew h cs)
  | .build t ps => (abuild P t (ps.toList.map fun p => (p.1, e p.2))).bind fun v => K v h
  | .buildSlice t len ps => (telem P t).bind fun el => (abuildSlice P el len (ps.toList.map fun p => (p.1, e p.2)) h).bind fun r => K r.1 r.2
  | .load t x => (tagg P t).bind fun ag => (tsz P t).bind fun sz => (aload ag sz (e x) h).bind fun v => K v h
  | .store t x v => (tagg P t).bind fun ag => (tsz P t).bind fun sz => if ag = false → sz = 1 then (astore ag sz (e x) (e v) h).bind fun h' => K (.tuple []) h' else none
  | .nilCheck x => (anil (e x)).bind fun v => K v h
  | .binOp op t x y _ => (abin P op t (aeqOk P t x y (e x) (e y)) (e x) (e y)).bind fun v => K v h
  | .unOp op _ x => (aun op (e x)).bind fun v => K v h
  | .convert s d x => (aconv P s d (e x) h).bind fun v => K v h
  | .makeInterface t x => match P.underlying t with | some (.interface _) => none | some _ => K (.iface t (e x)) h | none => none
  | .makeFunc (.func f) first caps => K (.func f (first.toList.map e) (caps.toList.map e)) h
  | .makeSlice t l c => (telem P t).bind fun el => (amake P el (e l) (e c) h).bind fun r => K r.1 r.2
  | .slice t x lo hi none => (aslice P t (e x) (lo.map e) (hi.map e) h).bind fun v => K v h
  | .fieldAddr t x f => (afield P t f).bind fun p => (tsz P p.1).bind fun sz => if sz = 0 then none else (aptr (e x) p.2).bind fun v => K v h
  | .field t x f => (afieldOf P t (e x) f).bind fun v => K v h
  | .indexAddr t x i => (aindexAddr P t (e x) (e i)).bind fun v => K v h
  | .index t x i => (aindex P t (e x) (e i)).bind fun v => K v h
  | .typeAssert x _ t ok => (aassert P (e x) t ok).bind fun v => K v h
  | .extract x i => (aextract (e x) i).bind fun v => K v h
  | .call c =>
    match c.callee with
    | .value f =>
      match e f with
      | .func g first caps => if callable P g then (call g (first ++ c.args.toList.map e ++ caps) h).bind fun r => K r.1 r.2 else none
      | _ => none
    | .invoke r name =>
      match e r with
      | .iface t v => (amethod P t name).bind fun g => if callable P g then (call g (v :: c.args.toList.map e) h).bind fun r => K r.1 r.2 else none
      | _ => none
    | .builtin .len =>
      match c.args.toList, c.argTypes.toList with
      | [x], [t] => (alen P t (e x)).bind fun n => K (.int .i64 n) h
      | _, _ => none
    | .builtin .append =>
      match c.args.toList, c.argTypes.toList with
      | [s, x], [t, u] => (telem P t).bind fun el => (tsz P el).bind fun sz => (tby P el).bind fun by' => (tzero P el).bind fun z =>
        match P.underlying u with
        | some (.slice _) => if sz = 0 ∨ by' = 0 ∨ z.length ≠ sz then none else (alenOf (e x)).bind fun m => (asrc sz (e x) h).bind fun xs => (aapp sz by' (e s) m xs h).bind fun r => K r.1 r.2
        | some .string => if sz = 0 ∨ by' = 0 ∨ z.length ≠ sz then none else (alenOf (e x)).bind fun m => (asrc sz (e x) h).bind fun xs => (aapp sz by' (e s) m xs h).bind fun r => K r.1 r.2
        | _ => none
      | _, _ => none
    | .builtin .copy =>
      match c.args.toList, c.argTypes.toList with
      | [d, x], [t, _] => (telem P t).bind fun el => (tsz P el).bind fun sz => if sz = 0 then none else (acopy sz (e d) (e x) h).bind fun r => K r.1 r.2
      | _, _ => none
    | .builtin .min => match c.args.toList with | x :: r => (aminmax false (e x) (r.map e)).bind fun v => K v h | [] => none
    | .builtin .max => match c.args.toList with | x :: r => (aminmax true (e x) (r.map e)).bind fun v => K v h | [] => none
    | _ => none
  | _ => none

/-- The guard of an operation: the value that it hangs on is made a literal on each way. -/
def aguard {R : Type} (n : Nat) (ops : Array Oper) (o : Oper) (env : Env) (yes no : Env → Option R) : Option R :=
  match o.guard with
  | none => yes env
  | some (j, want) =>
    match (ops[j]?).bind (·.dst) with
    | none => no env
    | some d =>
      if d < n then
        match env d with
        | .bool b => if b then (if want then yes (aput n env (some d) (.bool true)) else no (aput n env (some d) (.bool true)))
          else (if want then no (aput n env (some d) (.bool false)) else yes (aput n env (some d) (.bool false)))
        | .tuple [] => no env
        | _ => none
      else no env

/-- A value by its type: numbers, bools and strings are taken apart. -/
def asI {R : Type} (k : IntKind) (v : AV) (f : Int → Option R) : Option R := match v with | .int k' n => if k' = k then f n else none | _ => none
def asB {R : Type} (v : AV) (f : Bool → Option R) : Option R := match v with | .bool b => f b | _ => none
def asS {R : Type} (v : AV) (f : List UInt8 → Option R) : Option R := match v with | .str s => f s | _ => none
def asT {R : Type} (P : Program) (t : TypeId) (v : AV) (K : AV → Option R) : Option R :=
  match P.underlying t with
  | some (.int k) => asI k v fun n => K (.int k n)
  | some .bool => asB v fun b => K (.bool b)
  | some .string => asS v fun s => K (.str s)
  | _ => K v
/-- Is it? -/
def isT (P : Program) (t : TypeId) (v : AV) : Bool :=
  match P.underlying t with
  | some (.int k) => match v with | .int k' _ => decide (k' = k) | _ => false
  | some .bool => match v with | .bool _ => true | _ => false
  | some .string => match v with | .str _ => true | _ => false
  | _ => true
theorem asT_eq {R : Type} {P : Program} {t : TypeId} {v : AV} {K : AV → Option R} : asT P t v K = if isT P t v then K v else none := by
  unfold asT isT
  cases P.underlying t with
  | none => rfl
  | some d =>
    cases d with
    | int k =>
      cases v with
      | int k' n =>
        simp only [asI]
        by_cases h : k' = k
        · subst h; simp
        · simp [h]
      | _ => rfl
    | bool => cases v <;> rfl
    | string => cases v <;> rfl
    | _ => rfl
theorem asT_some {R : Type} {P : Program} {t : TypeId} {v : AV} {K : AV → Option R} {r : R} (h : asT P t v K = some r) : K v = some r := by
  rw [asT_eq] at h
  split at h
  · exact h
  · cases h

/-- A region in the order of its text. -/
def aops (P : Program) (call : FuncId → List AV → AHeap → Res) {R : Type} (n : Nat) (all : Array Oper) : List Oper → Env → AHeap → (Env → AHeap → Option R) → Option R
  | [], env, h, K => K env h
  | o :: r, env, h, K =>
    aguard n all o env (fun env => aop P call o (ev n env) h fun v h => asT P o.type v fun v => aops P call n all r (aput n env o.dst v) h K)
      (fun env => aops P call n all r (aput n env o.dst (.tuple [])) h K)

inductive AExit where
  | normal
  | brk (id : Nat)
  | ret
abbrev Kont := AExit → Env → AHeap → Res

/-- Notes beside the code: which slots are kept at a join. -/
inductive AN where
  | d
  | mk (keep : Option (List Nat)) (l r : AN)
def AN.keep : AN → Option (List Nat)
  | .mk k _ _ => k
  | .d => none
def AN.l : AN → AN
  | .mk _ l _ => l
  | .d => .d
def AN.r : AN → AN
  | .mk _ _ r => r
  | .d => .d
def envOf (l : List (Nat × AV)) : Env := fun i => match l with | [] => .junk | (k, v) :: r => if i = k then v else envOf r i
def era (k : Option (List Nat)) (env : Env) : Env :=
  match k with
  | none => env
  | some l => envOf (l.map fun i => (i, env i))

def kseq (b : Env → AHeap → Kont → Res) (k : Option (List Nat)) (K : Kont) : Kont := fun e env h =>
  match e with
  | .normal => b (era k env) h K
  | .brk i => K (.brk i) env h
  | .ret => K .ret env h
def kblock (id : Nat) (k : Option (List Nat)) (K : Kont) : Kont := fun e env h =>
  match e with
  | .normal => K .normal (era k env) h
  | .brk i => if i = id then K .normal (era k env) h else K (.brk i) env h
  | .ret => K .ret env h
def kloop (again : Env → AHeap → Kont → Res) (k : Option (List Nat)) (K : Kont) : Kont := fun e env h =>
  match e with
  | .normal => again (era k env) h K
  | .brk i => K (.brk i) env h
  | .ret => K .ret env h
def acond (v : AV) (A B : Res) : Res :=
  match v with
  | .bool true => A
  | .bool false => B
  | _ => none

def aiter (k : Option (List Nat)) (st : Env → AHeap → Kont → Res) : Nat → Env → AHeap → Kont → Res
  | 0, _, _, _ => none
  | n + 1, env, h, K => st env h (kloop (aiter k st n) k K)

mutual
def AV.beq : AV → AV → Bool
  | .junk, .junk => true
  | .bool a, .bool b => a == b
  | .int k a, .int l b => k == l && a == b
  | .str a, .str b => a == b
  | .nilptr, .nilptr => true
  | .ptr a b, .ptr c d => a == c && b == d
  | .nilsl, .nilsl => true
  | .sl a b c d, .sl e f g h => a == e && b == f && c == g && d == h
  | .nilmap, .nilmap => true
  | .map a, .map b => a == b
  | .nilfunc, .nilfunc => true
  | .func f a b, .func g c d => f == g && AV.beqs a c && AV.beqs b d
  | .niliface, .niliface => true
  | .iface t x, .iface u y => t == u && AV.beq x y
  | .agg a, .agg b => AV.beqs a b
  | .tuple a, .tuple b => AV.beqs a b
  | _, _ => false
def AV.beqs : List AV → List AV → Bool
  | [], [] => true
  | a :: as, b :: bs => AV.beq a b && AV.beqs as bs
  | _, _ => false
end
/-- Is a read's value the same still? -/
def chkRd (x : Option AV) (v : AV) : Bool := match x with | some y => AV.beq y v | none => false
/-- Is a block the same still? -/
def chkAl (x y : Option ABlk) : Bool :=
  match x, y with
  | some (.cells a cs), some (.cells b ds) => a == b && AV.beqs cs ds
  | _, _ => false
def aif {R : Type} (b : Bool) (A : Option R) : Option R := match b with | true => A | false => none

inductive Cls where
  | pure | read | alloc | chain
  deriving DecidableEq
def cls : Op → Cls
  | .load _ _ => .read
  | .convert _ _ _ => .read
  | .slice _ _ _ _ _ => .read
  | .alloc _ => .alloc
  | .box _ _ => .alloc
  | .buildSlice _ _ _ => .alloc
  | .makeSlice _ _ _ => .alloc
  | .move _ => .pure
  | .assign _ => .pure
  | .pick _ _ _ => .pure
  | .build _ _ => .pure
  | .nilCheck _ => .pure
  | .binOp _ _ _ _ _ => .pure
  | .unOp _ _ _ => .pure
  | .makeInterface _ _ => .pure
  | .makeFunc _ _ _ => .pure
  | .fieldAddr _ _ _ => .pure
  | .field _ _ _ => .pure
  | .indexAddr _ _ _ => .pure
  | .index _ _ _ => .pure
  | .typeAssert _ _ _ _ => .pure
  | .extract _ _ => .pure
  | .call c =>
    match c.callee with
    | .builtin .len => .pure
    | .builtin .min => .pure
    | .builtin .max => .pure
    | _ => .chain
  | _ => .chain
/-- Which operations stand before one, as bits. -/
def maskOf (ms : List Nat) (o : Oper) : Nat := o.after.toList.foldl (fun s e => if Region.binds .any e then s ||| 2 ^ e.on ||| ms.getD e.on 0 else s) 0
def masks : List Oper → List Nat → List Nat
  | [], ms => ms
  | o :: r, ms => masks r (ms ++ [maskOf ms o])
/-- The order in which the evaluator goes: what reads or makes memory as early as it may. -/
def canonGo (l : List (Nat × Cls × Nat)) (done : Nat) : Nat → List Nat
  | 0 => []
  | fuel + 1 =>
    match l.filter fun p => decide (p.2.1 ≠ .chain) && (p.2.2 ||| done == done) with
    | [] =>
      match l.find? fun p => p.2.2 ||| done == done with
      | none => []
      | some p => p.1 :: canonGo (l.filter fun q => q.1 != p.1) (done ||| 2 ^ p.1) fuel
    | p :: _ => p.1 :: canonGo (l.filter fun q => q.1 != p.1) (done ||| 2 ^ p.1) fuel
def canon (ops : List Oper) (ms : List Nat) : List Nat := canonGo ((ops.zip ms).zipIdx.map fun p => (p.2, cls p.1.1.op, p.1.2)) 0 ops.length
def pairOk (ops : Array Oper) (ms : List Nat) (i j : Nat) : Bool :=
  i != j && ((ms.getD j 0).testBit i ||
  match ops[i]?, ops[j]? with
  | some x, some y => decide (cls x.op ≠ .chain) && x.apart ops y
  | _, _ => false)
def pairsOk (ops : Array Oper) (ms : List Nat) : List Nat → Bool
  | [] => true
  | i :: l => l.all (pairOk ops ms i) && pairsOk ops ms l
def edgesOk (ms : List Nat) : List Oper → Nat → Bool
  | [], _ => true
  | o :: r, k => o.after.toList.all (fun e => !Region.binds .any e || decide (e.on < k)) && ms.getD k 0 == maskOf ms o && edgesOk ms r (k + 1)
def ordOk (ops : Array Oper) (ms : List Nat) (ord : List Nat) : Bool :=
  edgesOk ms ops.toList 0 && (List.range ops.size).all (fun i => ord.contains i) && ord.length == ops.size && pairsOk ops ms ord

inductive Pend where
  | rd (o : Oper) (env : Env) (v : AV)
  | al (c : Nat)
def pendOk (P : Program) (call : FuncId → List AV → AHeap → Res) (n : Nat) (mask : Nat) (h h' : AHeap) (p : Nat × Pend) : Bool :=
  mask.testBit p.1 ||
  match p.2 with
  | .rd o env v => chkRd (aop P call o (ev n env) h' fun v _ => some v) v
  | .al c => chkAl (hget h c) (hget h' c)
def adrawGo (P : Program) (call : FuncId → List AV → AHeap → Res) {R : Type} (n : Nat) (ops : Array Oper) (ms : List Nat) : List Nat → List (Nat × Pend) → Env → AHeap → (Env → AHeap → Option R) → Option R
  | [], _, env, h, K => K env h
  | i :: l, pd, env, h, K =>
    match ops[i]? with
    | none => none
    | some o =>
      aguard n ops o env
        (fun env => match cls o.op with
          | .pure => aop P call o (ev n env) h fun v h' => asT P o.type v fun v => adrawGo P call n ops ms l pd (aput n env o.dst v) h' K
          | .read => aop P call o (ev n env) h fun v h' => asT P o.type v fun v => adrawGo P call n ops ms l ((i, .rd o env v) :: pd) (aput n env o.dst v) h' K
          | .alloc => aop P call o (ev n env) h fun v h' => asT P o.type v fun v => adrawGo P call n ops ms l ((i, .al h.length) :: pd) (aput n env o.dst v) h' K
          | .chain => aop P call o (ev n env) h fun v h' => asT P o.type v fun v => aif (pd.all (pendOk P call n (ms.getD i 0) h h')) (adrawGo P call n ops ms l pd (aput n env o.dst v) h' K))
        (fun env => adrawGo P call n ops ms l pd (aput n env o.dst (.tuple [])) h K)
/-- A region whose order is open. -/
def adraw (P : Program) (call : FuncId → List AV → AHeap → Res) {R : Type} (n : Nat) (ops : Array Oper) (env : Env) (h : AHeap) (K : Env → AHeap → Option R) : Option R :=
  aif (ordOk ops (masks ops.toList []) (canon ops.toList (masks ops.toList []))) (adrawGo P call n ops (masks ops.toList []) (canon ops.toList (masks ops.toList [])) [] env h K)

def acode (P : Program) (call : FuncId → List AV → AHeap → Res) (loop : Option (List Nat) → (Env → AHeap → Kont → Res) → Env → AHeap → Kont → Res) (n : Nat) : AN → Code → Env → AHeap → Kont → Res
  | _, .skip, env, h, K => K .normal env h
  | _, .region _ ops draw, env, h, K =>
    if draw then adraw P call n ops env h (fun env h => K .normal env h) else aops P call n ops ops.toList env h (fun env h => K .normal env h)
  | an, .seq a b, env, h, K => acode P call loop n an.l a env h (kseq (acode P call loop n an.r b) an.keep K)
  | an, .cond c a b, env, h, K => acond (ev n env c) (acode P call loop n an.l a env h K) (acode P call loop n an.r b env h K)
  | an, .block id b, env, h, K => acode P call loop n an.l b env h (kblock id an.keep K)
  | an, .loop b, env, h, K => loop an.keep (acode P call loop n an.l b) (era an.keep env) h K
  | _, .exit id, env, h, K => K (.brk id) env h
  | _, .ret, env, h, K => K .ret env h
  | _, _, _, _, _ => none

def aresult (P : Program) (n : Nat) (env : Env) (h : AHeap) : List ResultVar → Option (List AV)
  | [] => some []
  | .tmp t :: r => (aresult P n env h r).bind fun l => some (ev n env (.tmp t) :: l)
  | .cell a t :: r => (tagg P t).bind fun ag => (tsz P t).bind fun sz => (aload ag sz (ev n env (.tmp a)) h).bind fun v => (aresult P n env h r).bind fun l => some (v :: l)
def aone (l : List AV) : AV := match l with | [v] => v | l => .tuple l
def kend (P : Program) (n : Nat) (rs : List ResultVar) : Kont := fun e env h =>
  match e with
  | .brk _ => none
  | _ => (aresult P n env h rs).bind fun l => some (aone l, h)

/-- A function whose answer is given, not reckoned from its code: it may call, answers no less where calls answer more, and takes nothing from the heap's length. -/
structure Given where
  run : (FuncId → List AV → AHeap → Res) → List AV → AHeap → Res
  mono : ∀ c d : FuncId → List AV → AHeap → Res, (∀ f xs h r, c f xs h = some r → d f xs h = some r) → ∀ xs h r, run c xs h = some r → run d xs h = some r
  down : ∀ (c : Nat → FuncId → List AV → AHeap → Res) (d : FuncId → List AV → AHeap → Res), (∀ i j, i ≤ j → ∀ f xs h r, c i f xs h = some r → c j f xs h = some r) → (∀ f xs h r, d f xs h = some r → ∃ m, c m f xs h = some r) → ∀ xs h r, run d xs h = some r → ∃ m, run (c m) xs h = some r
  len : ∀ c : FuncId → List AV → AHeap → Res, (∀ f xs h r, c f xs h = some r → h.length ≤ r.2.length) → ∀ xs h r, run c xs h = some r → h.length ≤ r.2.length
/-- A function's notes: a table; and the functions whose answers are given. -/
structure Notes where
  an : FuncId → AN
  ext : FuncId → Option Given
instance : CoeFun Notes (fun _ => FuncId → AN) := ⟨Notes.an⟩
def args (l : List AV) : Env := fun i => (l[i]?).getD (.tuple [])
def acallN (P : Program) (N : Notes) : Nat → FuncId → List AV → AHeap → Res
  | 0, _, _, _ => none
  | m + 1, f, xs, h =>
    match N.ext f with
    | some x => x.run (acallN P N m) xs h
    | none =>
      match P.funcs[f]? with
      | some fn =>
        match fn.body with
        | some c => acode P (acallN P N m) (fun k st => aiter k st m) (xs.length + (fn.ntmps - xs.length)) (N f) c (args xs) h
            (kend P (xs.length + (fn.ntmps - xs.length)) fn.results.toList)
        | none => none
      | none => none
end Go.Ab
end
section
/-
  Abstract values and heaps against the machine's values and worlds: the relation, and how it is kept.
-/
namespace Go.Ab
open Go.RowKit

structure BInfo where
  blk : Nat
  off : Nat
  ext : Nat
abbrev RMap := Nat → Option BInfo

mutual
def VRel (ρ : RMap) : AV → Value → Prop
  | .junk, _ => True
  | .bool b, v => v = .bool b
  | .int k n, v => v = .int k n
  | .str s, v => v = .string ⟨s.toArray⟩
  | .nilptr, v => v = .pointer none
  | .ptr b o, v => ∃ i, ρ b = some i ∧ v = .pointer (some ⟨i.blk, i.off + o, none⟩)
  | .nilsl, v => v = .slice none 0 0
  | .sl b o n sz, v => ∃ i a cap, ρ b = some i ∧ v = .slice (some a) n cap ∧ n ≤ cap ∧ 0 < sz ∧ (0 < cap → a = ⟨i.blk, i.off + o, none⟩ ∧ o + cap * sz ≤ i.ext)
  | .nilmap, v => v = .map none
  | .map b, v => ∃ i, ρ b = some i ∧ v = .map (some i.blk)
  | .nilfunc, v => v = .nilFunc
  | .func f first caps, v => ∃ xs ys : Array Value, v = .func (.func f) xs ys ∧ VRels ρ first xs.toList ∧ VRels ρ caps ys.toList
  | .niliface, v => v = .nilIface
  | .iface t x, v => ∃ y, v = .iface t y ∧ VRel ρ x y
  | .agg cs, v => ∃ xs : Array Value, v = .agg xs ∧ VRels ρ cs xs.toList
  | .tuple cs, v => ∃ xs : Array Value, v = .tuple xs ∧ VRels ρ cs xs.toList
def VRels (ρ : RMap) : List AV → List Value → Prop
  | [], vs => vs = []
  | a :: as, vs => ∃ v vs', vs = v :: vs' ∧ VRel ρ a v ∧ VRels ρ as vs'
end

mutual
theorem VRel.mono {ρ ρ' : RMap} (h : ∀ b i, ρ b = some i → ρ' b = some i) : ∀ (x : AV) (v : Value), VRel ρ x v → VRel ρ' x v
  | .junk, _, _ => by simp [VRel]
  | .bool b, v, hv => by simpa [VRel] using hv
  | .int k n, v, hv => by simpa [VRel] using hv
  | .str s, v, hv => by simpa [VRel] using hv
  | .nilptr, v, hv => by simpa [VRel] using hv
  | .ptr b o, v, hv => by
      simp only [VRel] at hv ⊢
      obtain ⟨i, hi, r⟩ := hv; exact ⟨i, h _ _ hi, r⟩
  | .nilsl, v, hv => by simpa [VRel] using hv
  | .sl b o n sz, v, hv => by
      simp only [VRel] at hv ⊢
      obtain ⟨i, a, cap, hi, r⟩ := hv; exact ⟨i, a, cap, h _ _ hi, r⟩
  | .nilmap, v, hv => by simpa [VRel] using hv
  | .map b, v, hv => by
      simp only [VRel] at hv ⊢
      obtain ⟨i, hi, r⟩ := hv; exact ⟨i, h _ _ hi, r⟩
  | .nilfunc, v, hv => by simpa [VRel] using hv
  | .func f a b, v, hv => by
      simp only [VRel] at hv ⊢
      obtain ⟨xs, ys, e, h1, h2⟩ := hv
      exact ⟨xs, ys, e, VRels.mono h a _ h1, VRels.mono h b _ h2⟩
  | .niliface, v, hv => by simpa [VRel] using hv
  | .iface t x, v, hv => by
      simp only [VRel] at hv ⊢
      obtain ⟨y, e, h1⟩ := hv
      exact ⟨y, e, VRel.mono h x _ h1⟩
  | .agg a, v, hv => by
      simp only [VRel] at hv ⊢
      obtain ⟨xs, e, h1⟩ := hv
      exact ⟨xs, e, VRels.mono h a _ h1⟩
  | .tuple a, v, hv => by
      simp only [VRel] at hv ⊢
      obtain ⟨xs, e, h1⟩ := hv
      exact ⟨xs, e, VRels.mono h a _ h1⟩
theorem VRels.mono {ρ ρ' : RMap} (h : ∀ b i, ρ b = some i → ρ' b = some i) : ∀ (x : List AV) (v : List Value), VRels ρ x v → VRels ρ' x v
  | [], v, hv => by simpa [VRels] using hv
  | a :: as, v, hv => by
      simp only [VRels] at hv ⊢
      obtain ⟨y, ys, e, h1, h2⟩ := hv
      exact ⟨y, ys, e, VRel.mono h a _ h1, VRels.mono h as _ h2⟩
end

theorem VRels.nil_iff {ρ : RMap} {vs : List Value} : VRels ρ [] vs ↔ vs = [] := by simp [VRels]
theorem VRels.cons_iff {ρ : RMap} {a : AV} {as : List AV} {vs : List Value} : VRels ρ (a :: as) vs ↔ ∃ v vs', vs = v :: vs' ∧ VRel ρ a v ∧ VRels ρ as vs' := by simp [VRels]
theorem VRels.cons {ρ : RMap} {a : AV} {as : List AV} {v : Value} {vs : List Value} (h : VRel ρ a v) (hs : VRels ρ as vs) : VRels ρ (a :: as) (v :: vs) :=
  VRels.cons_iff.2 ⟨v, vs, rfl, h, hs⟩
theorem VRels.length {ρ : RMap} : ∀ {as : List AV} {vs : List Value}, VRels ρ as vs → as.length = vs.length
  | [], vs, h => by rw [VRels.nil_iff] at h; simp [h]
  | a :: as, vs, h => by
    rw [VRels.cons_iff] at h
    obtain ⟨v, vs', rfl, _, hs⟩ := h
    simp [VRels.length hs]
theorem VRels.get {ρ : RMap} : ∀ {as : List AV} {vs : List Value}, VRels ρ as vs → ∀ (j : Nat) (x : AV), as[j]? = some x → ∃ v, vs[j]? = some v ∧ VRel ρ x v
  | [], vs, _, j, x, hx => by simp at hx
  | a :: as, vs, h, j, x, hx => by
    rw [VRels.cons_iff] at h
    obtain ⟨v, vs', rfl, hv, hs⟩ := h
    cases j with
    | zero => simp at hx; subst hx; exact ⟨v, by simp, hv⟩
    | succ j => simpa using VRels.get hs j x (by simpa using hx)
theorem VRels.of_get {ρ : RMap} : ∀ {as : List AV} {vs : List Value}, as.length = vs.length → (∀ (j : Nat) (x : AV), as[j]? = some x → ∃ v, vs[j]? = some v ∧ VRel ρ x v) → VRels ρ as vs
  | [], vs, hl, _ => by
    have h0 : vs = [] := List.eq_nil_of_length_eq_zero (by simpa using hl.symm)
    rw [h0]; exact VRels.nil_iff.2 rfl
  | a :: as, vs, hl, h => by
    cases vs with
    | nil => simp at hl
    | cons v vs =>
      have h0 := h 0 a (by simp)
      refine VRels.cons (by simpa using h0) (VRels.of_get (by simpa using hl) fun j x hx => by simpa using h (j + 1) x (by simpa using hx))
theorem VRels.append {ρ : RMap} {as bs : List AV} {vs us : List Value} (h : VRels ρ as vs) (k : VRels ρ bs us) : VRels ρ (as ++ bs) (vs ++ us) := by
  induction as generalizing vs with
  | nil => rw [VRels.nil_iff] at h; subst h; simpa using k
  | cons a as ih =>
    rw [VRels.cons_iff] at h
    obtain ⟨v, vs', rfl, hv, hs⟩ := h
    exact VRels.cons hv (ih hs)
theorem VRels.take {ρ : RMap} {as : List AV} {vs : List Value} (h : VRels ρ as vs) (n : Nat) : VRels ρ (as.take n) (vs.take n) := by
  induction as generalizing vs n with
  | nil => rw [VRels.nil_iff] at h; subst h; simp [VRels.nil_iff]
  | cons a as ih =>
    rw [VRels.cons_iff] at h
    obtain ⟨v, vs', rfl, hv, hs⟩ := h
    cases n with
    | zero => simp [VRels.nil_iff]
    | succ n => simpa using VRels.cons hv (ih hs n)
theorem VRels.drop {ρ : RMap} {as : List AV} {vs : List Value} (h : VRels ρ as vs) (n : Nat) : VRels ρ (as.drop n) (vs.drop n) := by
  induction as generalizing vs n with
  | nil => rw [VRels.nil_iff] at h; subst h; simp [VRels.nil_iff]
  | cons a as ih =>
    rw [VRels.cons_iff] at h
    obtain ⟨v, vs', rfl, hv, hs⟩ := h
    cases n with
    | zero => simpa using VRels.cons hv hs
    | succ n => simpa using ih hs n
theorem VRels.map {ρ : RMap} {α : Type} (l : List α) (f : α → AV) (g : α → Value) (h : ∀ x ∈ l, VRel ρ (f x) (g x)) : VRels ρ (l.map f) (l.map g) := by
  induction l with
  | nil => simp [VRels.nil_iff]
  | cons a l ih => exact VRels.cons (h a (by simp)) (ih fun x hx => h x (by simp [hx]))
theorem VRels.flatrep {ρ : RMap} {as : List AV} {vs : List Value} (h : VRels ρ as vs) (n : Nat) : VRels ρ (List.flatten (List.replicate n as)) (List.flatten (List.replicate n vs)) := by
  induction n with
  | zero => simp [VRels.nil_iff]
  | succ n ih => simpa [List.replicate_succ] using h.append ih

/-- A place that the abstract heap may write. -/
def owned (ρ : RMap) (h : AHeap) (bi off : Nat) : Prop := ∃ b i cs, ρ b = some i ∧ hget h b = some (.cells false cs) ∧ i.blk = bi ∧ i.off ≤ off ∧ off < i.off + i.ext

/-- The abstract heap is what stands in the world. -/
structure Rep (B : Nat) (ρ : RMap) (h : AHeap) (w : World) : Prop where
  base : B ≤ w.heap.size
  len : ∀ b i ro cs, ρ b = some i → hget h b = some (.cells ro cs) → cs.length ≤ i.ext
  get : ∀ b i ro cs, ρ b = some i → hget h b = some (.cells ro cs) → ∀ (j : Nat) (x : AV), cs[j]? = some x → ∃ v, w.cell? ⟨i.blk, i.off + j, none⟩ = some v ∧ VRel ρ x v
  rw' : ∀ b i cs, ρ b = some i → hget h b = some (.cells false cs) → B ≤ i.blk ∧ ∀ j, j < i.ext → ∃ v, w.cell? ⟨i.blk, i.off + j, none⟩ = some v ∧ w.frozen? ⟨i.blk, i.off + j, none⟩ = false
  low : ∀ b i cs, ρ b = some i → hget h b = some (.cells true cs) → 0 < i.ext → i.blk < B
  disj : ∀ b b' i i' cs cs', b ≠ b' → ρ b = some i → ρ b' = some i' → hget h b = some (.cells false cs) → hget h b' = some (.cells false cs') →
    i.blk = i'.blk → ∀ p, i.off ≤ p → p < i.off + i.ext → i'.off ≤ p → p < i'.off + i'.ext → False

/-- From one state to a later one. -/
structure Evo (B : Nat) (ρ : RMap) (h : AHeap) (w : World) (ρ' : RMap) (h' : AHeap) (w' : World) : Prop where
  below : Below B w w'
  cell : ∀ bi off, bi < w.heap.size → ¬ owned ρ h bi off → w'.cell? ⟨bi, off, none⟩ = w.cell? ⟨bi, off, none⟩ ∧ w'.frozen? ⟨bi, off, none⟩ = w.frozen? ⟨bi, off, none⟩
  own : ∀ bi off, bi < w.heap.size → owned ρ' h' bi off → owned ρ h bi off
  rho : ∀ b i, ρ b = some i → ρ' b = some i
  new : ∀ b, ρ b = none → ρ' b ≠ none → h.length ≤ b ∧ b < h'.length
  len : h.length ≤ h'.length

theorem Evo.refl (B : Nat) (ρ : RMap) (h : AHeap) (w : World) : Evo B ρ h w ρ h w :=
  ⟨Below.refl _ _, fun _ _ _ _ => ⟨rfl, rfl⟩, fun _ _ _ o => o, fun _ _ e => e, fun _ a b => absurd a b, Nat.le_refl _⟩
theorem Evo.trans {B : Nat} {ρ ρ' ρ'' : RMap} {h h' h'' : AHeap} {w w' w'' : World} (a : Evo B ρ h w ρ' h' w') (b : Evo B ρ' h' w' ρ'' h'' w'') : Evo B ρ h w ρ'' h'' w'' where
  below := a.below.trans b.below
  cell bi off hb ho := by
    have hb' : bi < w'.heap.size := Nat.lt_of_lt_of_le hb a.below.size
    have h1 := a.cell bi off hb ho
    have h2 := b.cell bi off hb' fun o => ho (a.own bi off hb o)
    exact ⟨h2.1.trans h1.1, h2.2.trans h1.2⟩
  own bi off hb o := a.own bi off hb (b.own bi off (Nat.lt_of_lt_of_le hb a.below.size) o)
  rho i j e := b.rho _ _ (a.rho _ _ e)
  new i e n := by
    by_cases hn : ρ' i = none
    · have := b.new i hn n
      have := a.len
      omega
    · have := a.new i e hn
      have := b.len
      omega
  len := Nat.le_trans a.len b.len
theorem Evo.vrel {B : Nat} {ρ ρ' : RMap} {h h' : AHeap} {w w' : World} (e : Evo B ρ h w ρ' h' w') {x : AV} {v : Value} (r : VRel ρ x v) : VRel ρ' x v := VRel.mono e.rho x v r
theorem Evo.vrels {B : Nat} {ρ ρ' : RMap} {h h' : AHeap} {w w' : World} (e : Evo B ρ h w ρ' h' w') {x : List AV} {v : List Value} (r : VRels ρ x v) : VRels ρ' x v := VRels.mono e.rho x v r
theorem Rep.drew {B : Nat} {ρ : RMap} {h : AHeap} {w : World} (r : Rep B ρ h w) : Rep B ρ h w.drew := ⟨r.base, r.len, r.get, r.rw', r.low, r.disj⟩
theorem Evo.drew {B : Nat} {ρ ρ' : RMap} {h h' : AHeap} {w w' : World} (e : Evo B ρ h w.drew ρ' h' w') : Evo B ρ h w ρ' h' w' :=
  ⟨⟨e.below.os, e.below.tape, e.below.output, e.below.size, e.below.block⟩, e.cell, e.own, e.rho, e.new, e.len⟩

theorem Evo.drew' {B : Nat} {ρ ρ' : RMap} {h h' : AHeap} {w w' : World} (e : Evo B ρ h w ρ' h' w') : Evo B ρ h w ρ' h' w'.drew :=
  ⟨e.below.drew, e.cell, e.own, e.rho, e.new, e.len⟩

theorem hget_lt {h : AHeap} {b : Nat} {x : ABlk} (e : hget h b = some x) : b < h.length := by
  unfold hget at e
  cases hb : h[b]? with
  | none => simp [hb] at e
  | some y => exact (List.getElem?_eq_some_iff.1 hb).1
theorem hget_new (h : AHeap) (cs : List AV) (b : Nat) : hget (hnew h cs) b = if b = h.length then some (.cells false cs) else hget h b := by
  unfold hget hnew
  rcases Nat.lt_trichotomy b h.length with hb | hb | hb
  · rw [List.getElem?_append_left hb, if_neg (by omega)]
  · subst hb; simp
  · rw [if_neg (by omega), List.getElem?_append_right (by omega), List.getElem?_eq_none (by simp; omega), List.getElem?_eq_none (by omega)]
theorem hget_set (h : AHeap) (b c : Nat) (cs : List AV) (hb : b < h.length) : hget (hset h b cs) c = if c = b then some (.cells false cs) else hget h c := by
  unfold hget hset
  rw [List.getElem?_set]
  by_cases hc : c = b
  · subst hc; simp [hb]
  · rw [if_neg (fun e => hc e.symm), if_neg hc]
theorem hget_kill (h : AHeap) (b c : Nat) : hget (h.set b none) c = if c = b then none else hget h c := by
  unfold hget
  rw [List.getElem?_set]
  by_cases hc : c = b
  · subst hc
    by_cases hb : c < h.length <;> simp [hb]
  · rw [if_neg (fun e => hc e.symm), if_neg hc]
@[simp] theorem length_hnew (h : AHeap) (cs : List AV) : (hnew h cs).length = h.length + 1 := by simp [hnew]
@[simp] theorem length_hset (h : AHeap) (b : Nat) (cs : List AV) : (hset h b cs).length = h.length := by simp [hset]

def rset (ρ : RMap) (b : Nat) (i : BInfo) : RMap := fun c => if c = b then some i else ρ c
theorem rset_mono {ρ : RMap} {b : Nat} {i : BInfo} (hn : ρ b = none) : ∀ c j, ρ c = some j → rset ρ b i c = some j := by
  intro c j e
  unfold rset
  by_cases hc : c = b
  · subst hc; rw [hn] at e; cases e
  · rw [if_neg hc]; exact e

/-- A new block. -/
theorem Rep.alloc {B : Nat} {ρ : RMap} {h : AHeap} {w : World} (r : Rep B ρ h w) (hn : ρ h.length = none) (cs : List AV) (arr : Array Value) (t : TypeId)
    (hl : cs.length ≤ arr.size) (hv : ∀ (j : Nat) (x : AV), cs[j]? = some x → ∃ v, arr[j]? = some v ∧ VRel ρ x v) :
    Rep B (rset ρ h.length ⟨w.heap.size, 0, arr.size⟩) (hnew h cs) (w.alloc (.cells arr t)) ∧
    Evo B ρ h w (rset ρ h.length ⟨w.heap.size, 0, arr.size⟩) (hnew h cs) (w.alloc (.cells arr t)) := by
  have hm := rset_mono (i := ⟨w.heap.size, 0, arr.size⟩) hn
  have key : ∀ b i blk, rset ρ h.length ⟨w.heap.size, 0, arr.size⟩ b = some i → hget (hnew h cs) b = some blk →
      (b = h.length ∧ i = ⟨w.heap.size, 0, arr.size⟩ ∧ blk = .cells false cs) ∨ (b ≠ h.length ∧ ρ b = some i ∧ hget h b = some blk) := by
    intro b i blk h1 h2
    rw [hget_new] at h2
    unfold rset at h1
    by_cases hb : b = h.length
    · rw [if_pos hb] at h1 h2
      cases h1; cases h2
      exact .inl ⟨hb, rfl, rfl⟩
    · rw [if_neg hb] at h1 h2
      exact .inr ⟨hb, h1, h2⟩
  have oldlt : ∀ b i cs', ρ b = some i → hget h b = some (.cells false cs') → ∀ j, j < i.ext → i.blk < w.heap.size := by
    intro b i cs' h1 h2 j hj
    obtain ⟨v, hc, _⟩ := (r.rw' b i cs' h1 h2).2 j hj
    exact World.block_lt_of_cell? w ⟨i.blk, i.off + j, none⟩ hc
  refine ⟨⟨?_, ?_, ?_, ?_, ?_, ?_⟩, ⟨?_, ?_, ?_, hm, ?_, by simp⟩⟩
  · simpa using Nat.le_succ_of_le r.base
  · intro b i ro c h1 h2
    rcases key b i _ h1 h2 with ⟨_, hi, hc⟩ | ⟨_, h1', h2'⟩
    · cases hc; subst hi; exact hl
    · exact r.len b i ro c h1' h2'
  · intro b i ro c h1 h2 j x hx
    rcases key b i _ h1 h2 with ⟨_, hi, hc⟩ | ⟨_, h1', h2'⟩
    · cases hc; subst hi
      obtain ⟨v, e, hr⟩ := hv j x hx
      exact ⟨v, by simpa using e, VRel.mono hm _ _ hr⟩
    · obtain ⟨v, e, hr⟩ := r.get b i ro c h1' h2' j x hx
      have hlt := World.block_lt_of_cell? w ⟨i.blk, i.off + j, none⟩ e
      exact ⟨v, by rw [World.cell?_alloc_lt _ _ _ hlt]; exact e, VRel.mono hm _ _ hr⟩
  · intro b i c h1 h2
    rcases key b i _ h1 h2 with ⟨_, hi, hc⟩ | ⟨_, h1', h2'⟩
    · subst hi
      refine ⟨r.base, fun j hj => ?_⟩
      have hj' : j < arr.size := hj
      refine ⟨arr[j], by simp [hj'], ?_⟩
      have := World.frozen?_alloc_new w arr t (0 + j)
      exact this
    · refine ⟨(r.rw' b i c h1' h2').1, fun j hj => ?_⟩
      obtain ⟨v, e, hf⟩ := (r.rw' b i c h1' h2').2 j hj
      have hlt := World.block_lt_of_cell? w ⟨i.blk, i.off + j, none⟩ e
      exact ⟨v, by rw [World.cell?_alloc_lt _ _ _ hlt]; exact e, by rw [World.frozen?_alloc_old _ _ _ (Nat.ne_of_lt hlt)]; exact hf⟩
  · intro b i c h1 h2
    rcases key b i _ h1 h2 with ⟨_, hi, hc⟩ | ⟨_, h1', h2'⟩
    · cases hc
    · exact r.low b i c h1' h2'
  · intro b b' i i' c c' hne h1 h1' h2 h2' he p p1 p2 p3 p4
    rcases key b i _ h1 h2 with ⟨hb, hi, hc⟩ | ⟨_, g1, g2⟩ <;> rcases key b' i' _ h1' h2' with ⟨hb', hi', hc'⟩ | ⟨_, g1', g2'⟩
    · exact absurd (hb.trans hb'.symm) hne
    · subst hi
      have := oldlt b' i' c' g1' g2' (p - i'.off) (by omega)
      simp only at he
      omega
    · subst hi'
      have := oldlt b i c g1 g2 (p - i.off) (by omega)
      simp only at he
      omega
    · exact r.disj b b' i i' c c' hne g1 g1' g2 g2' he p p1 p2 p3 p4
  · exact (Below.refl _ _).alloc r.base _
  · intro bi off hb _
    exact ⟨World.cell?_alloc_lt _ _ _ hb, World.frozen?_alloc_old _ _ _ (Nat.ne_of_lt hb)⟩
  · rintro bi off hb ⟨b, i, c, h1, h2, h3, h4, h5⟩
    rcases key b i _ h1 h2 with ⟨_, hi, hc⟩ | ⟨_, h1', h2'⟩
    · subst hi; simp at h3; omega
    · exact ⟨b, i, c, h1', h2', h3, h4, h5⟩
  · intro b e n
    unfold rset at n
    by_cases hb : b = h.length
    · subst hb; simp
    · rw [if_neg hb] at n; exact absurd e n

end Go.Ab
end
section
/-
  Writes into a block that the abstract heap owns; a block that gives its place to a new one.
-/
namespace Go.Ab
open Go.RowKit

theorem Rep.write {B : Nat} {ρ : RMap} {h : AHeap} {w w' : World} (r : Rep B ρ h w) {b : Nat} {i : BInfo} {cs cs' : List AV} (h1 : ρ b = some i) (h2 : hget h b = some (.cells false cs))
    (hB : Below B w w') (hs : w'.heap.size = w.heap.size)
    (hc : ∀ bi off, ¬ (bi = i.blk ∧ i.off ≤ off ∧ off < i.off + i.ext) → w'.cell? ⟨bi, off, none⟩ = w.cell? ⟨bi, off, none⟩)
    (hf : ∀ a, w'.frozen? a = w.frozen? a)
    (hx : ∀ j, j < i.ext → ∃ v, w'.cell? ⟨i.blk, i.off + j, none⟩ = some v)
    (hl : cs'.length ≤ i.ext) (hv : ∀ (j : Nat) (x : AV), cs'[j]? = some x → ∃ v, w'.cell? ⟨i.blk, i.off + j, none⟩ = some v ∧ VRel ρ x v) :
    Rep B ρ (hset h b cs') w' ∧ Evo B ρ h w ρ (hset h b cs') w' := by
  have hb := hget_lt h2
  have key : ∀ c j blk, ρ c = some j → hget (hset h b cs') c = some blk →
      (c = b ∧ j = i ∧ blk = .cells false cs') ∨ (c ≠ b ∧ hget h c = some blk) := by
    intro c j blk g1 g2
    rw [hget_set _ _ _ _ hb] at g2
    by_cases e : c = b
    · subst e
      rw [if_pos rfl] at g2
      rw [h1] at g1
      cases g1; cases g2
      exact .inl ⟨rfl, rfl, rfl⟩
    · rw [if_neg e] at g2; exact .inr ⟨e, g2⟩
  have hblk := (r.rw' b i cs h1 h2).1
  have away : ∀ c j ro ds, c ≠ b → ρ c = some j → hget h c = some (.cells ro ds) → ∀ q, q < j.ext → (ro = true → q < ds.length) → w'.cell? ⟨j.blk, j.off + q, none⟩ = w.cell? ⟨j.blk, j.off + q, none⟩ := by
    intro c j ro ds hne g1 g2 q hq _
    refine hc _ _ ?_
    rintro ⟨e1, e2, e3⟩
    cases ro with
    | true => have := r.low c j ds g1 g2 (by omega); omega
    | false => exact r.disj c b j i ds cs hne g1 h1 g2 h2 e1 (j.off + q) (by omega) (by omega) e2 e3
  refine ⟨⟨?_, ?_, ?_, ?_, ?_, ?_⟩, ⟨hB, ?_, ?_, fun _ _ e => e, fun _ e n => absurd e n, by simp⟩⟩
  · rw [hs]; exact r.base
  · intro c j ro ds g1 g2
    rcases key c j _ g1 g2 with ⟨rfl, rfl, hds⟩ | ⟨_, g2'⟩
    · cases hds; exact hl
    · exact r.len c j ro ds g1 g2'
  · intro c j ro ds g1 g2 q x hq
    rcases key c j _ g1 g2 with ⟨rfl, rfl, hds⟩ | ⟨hne, g2'⟩
    · cases hds; exact hv q x hq
    · obtain ⟨v, e, hr⟩ := r.get c j ro ds g1 g2' q x hq
      have hlt := (List.getElem?_eq_some_iff.1 hq).1
      exact ⟨v, by rw [away c j ro ds hne g1 g2' q (Nat.lt_of_lt_of_le hlt (r.len c j ro ds g1 g2')) fun _ => hlt]; exact e, hr⟩
  · intro c j ds g1 g2
    rcases key c j _ g1 g2 with ⟨rfl, rfl, hds⟩ | ⟨hne, g2'⟩
    · refine ⟨hblk, fun q hq => ?_⟩
      obtain ⟨v, e, f⟩ := (r.rw' c j cs h1 h2).2 q hq
      obtain ⟨v', e'⟩ := hx q hq
      exact ⟨v', e', by rw [hf]; exact f⟩
    · refine ⟨(r.rw' c j ds g1 g2').1, fun q hq => ?_⟩
      obtain ⟨v, e, f⟩ := (r.rw' c j ds g1 g2').2 q hq
      exact ⟨v, by rw [away c j false ds hne g1 g2' q hq (by simp)]; exact e, by rw [hf]; exact f⟩
  · intro c j ds g1 g2
    rcases key c j _ g1 g2 with ⟨rfl, rfl, hds⟩ | ⟨hne, g2'⟩
    · cases hds
    · exact r.low c j ds g1 g2'
  · intro c c' j j' ds ds' hne g1 g1' g2 g2' he p p1 p2 p3 p4
    rcases key c j _ g1 g2 with ⟨e, ej, hds⟩ | ⟨hc1, k2⟩ <;> rcases key c' j' _ g1' g2' with ⟨e', ej', hds'⟩ | ⟨hc2, k2'⟩
    · exact hne (e.trans e'.symm)
    · subst e; subst ej; exact r.disj _ _ _ _ _ _ hne h1 g1' h2 k2' he p p1 p2 p3 p4
    · subst e'; subst ej'; exact r.disj _ _ _ _ _ _ hne g1 h1 k2 h2 he p p1 p2 p3 p4
    · exact r.disj _ _ _ _ _ _ hne g1 g1' k2 k2' he p p1 p2 p3 p4
  · intro bi off hbi ho
    refine ⟨hc _ _ ?_, hf _⟩
    rintro ⟨e1, e2, e3⟩
    exact ho ⟨b, i, cs, h1, h2, e1.symm, e2, e3⟩
  · rintro bi off hbi ⟨c, j, ds, g1, g2, e1, e2, e3⟩
    rcases key c j _ g1 g2 with ⟨rfl, rfl, hds⟩ | ⟨hne, g2'⟩
    · exact ⟨c, j, cs, h1, h2, e1, e2, e3⟩
    · exact ⟨c, j, ds, g1, g2', e1, e2, e3⟩

theorem Rep.move {B : Nat} {ρ : RMap} {h : AHeap} {w w' : World} (r : Rep B ρ h w) (hn : ρ h.length = none) {b : Nat} {i : BInfo} {cs cs' : List AV} {o : Nat} (h1 : ρ b = some i) (h2 : hget h b = some (.cells false cs))
    (hB : Below B w w') (hs : w'.heap.size = w.heap.size) (ho : o ≤ i.ext)
    (hc : ∀ bi off, ¬ (bi = i.blk ∧ i.off ≤ off ∧ off < i.off + i.ext) → w'.cell? ⟨bi, off, none⟩ = w.cell? ⟨bi, off, none⟩)
    (hf : ∀ a, w'.frozen? a = w.frozen? a)
    (hx : ∀ j, j < i.ext → ∃ v, w'.cell? ⟨i.blk, i.off + j, none⟩ = some v)
    (hl : cs'.length ≤ i.ext - o) (hv : ∀ (j : Nat) (x : AV), cs'[j]? = some x → ∃ v, w'.cell? ⟨i.blk, i.off + o + j, none⟩ = some v ∧ VRel ρ x v) :
    Rep B (rset ρ h.length ⟨i.blk, i.off + o, i.ext - o⟩) (hnew (h.set b none) cs') w' ∧ Evo B ρ h w (rset ρ h.length ⟨i.blk, i.off + o, i.ext - o⟩) (hnew (h.set b none) cs') w' := by
  have hm := rset_mono (i := ⟨i.blk, i.off + o, i.ext - o⟩) hn
  have hb := hget_lt h2
  have hlen : (h.set b none).length = h.length := by simp
  have key : ∀ c j blk, rset ρ h.length ⟨i.blk, i.off + o, i.ext - o⟩ c = some j → hget (hnew (h.set b none) cs') c = some blk →
      (c = h.length ∧ j = ⟨i.blk, i.off + o, i.ext - o⟩ ∧ blk = .cells false cs') ∨ (c ≠ h.length ∧ c ≠ b ∧ ρ c = some j ∧ hget h c = some blk) := by
    intro c j blk g1 g2
    rw [hget_new, hlen] at g2
    unfold rset at g1
    by_cases e : c = h.length
    · rw [if_pos e] at g1 g2
      cases g1; cases g2
      exact .inl ⟨e, rfl, rfl⟩
    · rw [if_neg e] at g1 g2
      rw [hget_kill] at g2
      by_cases e' : c = b
      · rw [if_pos e'] at g2; cases g2
      · rw [if_neg e'] at g2; exact .inr ⟨e, e', g1, g2⟩
  have hblk := (r.rw' b i cs h1 h2).1
  have away : ∀ c j ro ds, c ≠ b → ρ c = some j → hget h c = some (.cells ro ds) → ∀ q, q < j.ext → w'.cell? ⟨j.blk, j.off + q, none⟩ = w.cell? ⟨j.blk, j.off + q, none⟩ := by
    intro c j ro ds hne g1 g2 q hq
    refine hc _ _ ?_
    rintro ⟨e1, e2, e3⟩
    cases ro with
    | true => have := r.low c j ds g1 g2 (by omega); omega
    | false => exact r.disj c b j i ds cs hne g1 h1 g2 h2 e1 (j.off + q) (by omega) (by omega) e2 e3
  refine ⟨⟨?_, ?_, ?_, ?_, ?_, ?_⟩, ⟨hB, ?_, ?_, hm, ?_, by simp⟩⟩
  · rw [hs]; exact r.base
  · intro c j ro ds g1 g2
    rcases key c j _ g1 g2 with ⟨_, hj, hds⟩ | ⟨_, _, g1', g2'⟩
    · cases hds; subst hj; exact hl
    · exact r.len c j ro ds g1' g2'
  · intro c j ro ds g1 g2 q x hq
    rcases key c j _ g1 g2 with ⟨_, hj, hds⟩ | ⟨_, hne, g1', g2'⟩
    · cases hds; subst hj
      obtain ⟨v, e, hr⟩ := hv q x hq
      exact ⟨v, e, VRel.mono hm _ _ hr⟩
    · obtain ⟨v, e, hr⟩ := r.get c j ro ds g1' g2' q x hq
      have hlt := (List.getElem?_eq_some_iff.1 hq).1
      exact ⟨v, by rw [away c j ro ds hne g1' g2' q (Nat.lt_of_lt_of_le hlt (r.len c j ro ds g1' g2'))]; exact e, VRel.mono hm _ _ hr⟩
  · intro c j ds g1 g2
    rcases key c j _ g1 g2 with ⟨_, hj, hds⟩ | ⟨_, hne, g1', g2'⟩
    · subst hj
      refine ⟨hblk, fun q hq => ?_⟩
      have hq' : q < i.ext - o := hq
      obtain ⟨v, e, f⟩ := (r.rw' b i cs h1 h2).2 (o + q) (by omega)
      obtain ⟨v', e'⟩ := hx (o + q) (by omega)
      rw [show i.off + (o + q) = i.off + o + q from by omega] at e' f
      exact ⟨v', e', by rw [hf]; exact f⟩
    · refine ⟨(r.rw' c j ds g1' g2').1, fun q hq => ?_⟩
      obtain ⟨v, e, f⟩ := (r.rw' c j ds g1' g2').2 q hq
      exact ⟨v, by rw [away c j false ds hne g1' g2' q hq]; exact e, by rw [hf]; exact f⟩
  · intro c j ds g1 g2
    rcases key c j _ g1 g2 with ⟨_, hj, hds⟩ | ⟨_, hne, g1', g2'⟩
    · cases hds
    · exact r.low c j ds g1' g2'
  · intro c c' j j' ds ds' hne g1 g1' g2 g2' he p p1 p2 p3 p4
    rcases key c j _ g1 g2 with ⟨e, ej, hds⟩ | ⟨_, hc1, k1, k2⟩ <;> rcases key c' j' _ g1' g2' with ⟨e', ej', hds'⟩ | ⟨_, hc2, k1', k2'⟩
    · exact hne (e.trans e'.symm)
    · subst ej
      simp only at he p1 p2
      exact r.disj b c' i j' _ _ (fun e => hc2 e.symm) h1 k1' h2 k2' he p (by omega) (by omega) p3 p4
    · subst ej'
      simp only at he p3 p4
      exact r.disj c b j i _ _ hc1 k1 h1 k2 h2 he p p1 p2 (by omega) (by omega)
    · exact r.disj _ _ _ _ _ _ hne k1 k1' k2 k2' he p p1 p2 p3 p4
  · intro bi off hbi ho'
    refine ⟨hc _ _ ?_, hf _⟩
    rintro ⟨e1, e2, e3⟩
    exact ho' ⟨b, i, cs, h1, h2, e1.symm, e2, e3⟩
  · rintro bi off hbi ⟨c, j, ds, g1, g2, e1, e2, e3⟩
    rcases key c j _ g1 g2 with ⟨_, hj, hds⟩ | ⟨_, hne, g1', g2'⟩
    · subst hj
      exact ⟨b, i, cs, h1, h2, e1, by simp at e2; omega, by simp at e3; omega⟩
    · exact ⟨c, j, ds, g1', g2', e1, e2, e3⟩
  · intro c e n
    unfold rset at n
    by_cases hce : c = h.length
    · subst hce; simp
    · rw [if_neg hce] at n; exact absurd e n

/-- A block that dies and another one in new memory (append that grows). -/
theorem Rep.kill {B : Nat} {ρ : RMap} {h : AHeap} {w : World} (r : Rep B ρ h w) (b : Nat) : Rep B ρ (h.set b none) w ∧ Evo B ρ h w ρ (h.set b none) w := by
  have key : ∀ c blk, hget (h.set b none) c = some blk → hget h c = some blk := by
    intro c blk g
    rw [hget_kill] at g
    by_cases e : c = b
    · rw [if_pos e] at g; cases g
    · rw [if_neg e] at g; exact g
  refine ⟨⟨r.base, fun c i ro cs g1 g2 => r.len c i ro cs g1 (key _ _ g2), fun c i ro cs g1 g2 => r.get c i ro cs g1 (key _ _ g2), fun c i cs g1 g2 => r.rw' c i cs g1 (key _ _ g2),
    fun c i cs g1 g2 => r.low c i cs g1 (key _ _ g2), fun c c' i i' cs cs' hne g1 g1' g2 g2' => r.disj c c' i i' cs cs' hne g1 g1' (key _ _ g2) (key _ _ g2')⟩,
    ⟨Below.refl _ _, fun _ _ _ _ => ⟨rfl, rfl⟩, ?_, fun _ _ e => e, fun _ e n => absurd e n, by simp⟩⟩
  rintro bi off _ ⟨c, i, cs, g1, g2, e1, e2, e3⟩
  exact ⟨c, i, cs, g1, key _ _ g2, e1, e2, e3⟩

/-- Cells stored one behind the other. -/
theorem run_storeCells {P : Program} (a : Addr) (ha : a.spot = none) : ∀ (vs : List Value) (i : Nat) (w : World), (∀ v ∈ vs, v.oneCell' = true) →
    (∀ j, j < vs.length → ∃ u, w.cell? ⟨a.block, a.off + (i + j), none⟩ = some u ∧ w.frozen? ⟨a.block, a.off + (i + j), none⟩ = false) →
    ∃ w', (storeCells a vs i).run P w = .ok () w' ∧ w'.heap.size = w.heap.size ∧ w'.os = w.os ∧ w'.tape = w.tape ∧ w'.output = w.output ∧ (∀ k, k ≠ a.block → w'.heap[k]? = w.heap[k]?) ∧ (∀ b, w'.frozen? b = w.frozen? b) ∧
      (∀ j v, vs[j]? = some v → w'.cell? ⟨a.block, a.off + (i + j), none⟩ = some v) ∧
      (∀ bi off, ¬ (bi = a.block ∧ a.off + i ≤ off ∧ off < a.off + i + vs.length) → w'.cell? ⟨bi, off, none⟩ = w.cell? ⟨bi, off, none⟩)
  | [], i, w, _, _ => ⟨w, by simp [storeCells], rfl, rfl, rfl, rfl, fun _ _ => rfl, fun _ => rfl, fun j v h => by simp at h, fun _ _ _ => rfl⟩
  | v :: vs, i, w, hv, hc => by
    have hadd : a.add i = ⟨a.block, a.off + i, none⟩ := by
      unfold Addr.add
      by_cases h0 : i = 0
      · subst h0; simp [← ha]
      · simp [h0]
    obtain ⟨u, hu, hf⟩ := hc 0 (by simp)
    have hu' : w.cell? ⟨a.block, a.off + i, none⟩ = some u := by simpa using hu
    have hf' : w.frozen? ⟨a.block, a.off + i, none⟩ = false := by simpa using hf
    have hstep : (store (a.add i) v).run P w = .ok () (w.setCell ⟨a.block, a.off + i, none⟩ v) := by
      rw [hadd, run_store P w _ v .plain (hv v (by simp)), hu']
      simp [hf']
    have hc' : ∀ j, j < vs.length → ∃ u, (w.setCell ⟨a.block, a.off + i, none⟩ v).cell? ⟨a.block, a.off + (i + 1 + j), none⟩ = some u ∧ (w.setCell ⟨a.block, a.off + i, none⟩ v).frozen? ⟨a.block, a.off + (i + 1 + j), none⟩ = false := by
      intro j hj
      obtain ⟨u, h1, h2⟩ := hc (j + 1) (by simpa using hj)
      have e : i + 1 + j = i + (j + 1) := by omega
      refine ⟨u, ?_, by rw [World.frozen?_setCell, e]; exact h2⟩
      rw [World.cell?_setCell_other _ _ _ _ (by intro q; simp at q; omega), e]; exact h1
    obtain ⟨w', r, s, o1, o2, o3, hk, hfr, hg, hot⟩ := run_storeCells (P := P) a ha vs (i + 1) _ (fun x hx => hv x (by simp [hx])) hc'
    refine ⟨w', ?_, by simpa using s, o1, o2, o3, ?_, ?_, ?_, ?_⟩
    · simp only [storeCells, Sem.run_bind, hstep, Result.andThen_ok]; exact r
    · intro k hk'
      rw [hk k hk']
      exact Below.heap_setCell _ _ _ _ hk'
    · intro b; rw [hfr, World.frozen?_setCell]
    · intro j x hx
      cases j with
      | zero =>
        simp at hx; subst hx
        rw [hot _ _ (by rintro ⟨_, q, _⟩; omega)]
        have := World.cell?_setCell_same w ⟨a.block, a.off + i, none⟩ v hu'
        simpa using this
      | succ j =>
        have := hg j x (by simpa using hx)
        rw [show i + (j + 1) = i + 1 + j from by omega]; exact this
    · intro bi off hne
      rw [hot bi off (by rintro ⟨q1, q2, q3⟩; exact hne ⟨q1, by omega, by simp; omega⟩)]
      refine World.cell?_setCell_other _ _ _ _ ?_
      intro q
      simp at q
      exact hne ⟨q.1.symm, by omega, by simp; omega⟩
end Go.Ab
end
section
/-
  Operations without memory: what the evaluator says of them is what the machine does.
-/
namespace Go.Ab
open Go.RowKit

theorem VRel.int_iff {ρ : RMap} {k : IntKind} {n : Int} {v : Value} : VRel ρ (.int k n) v ↔ v = .int k n := by simp [VRel]
theorem VRel.bool_iff {ρ : RMap} {b : Bool} {v : Value} : VRel ρ (.bool b) v ↔ v = .bool b := by simp [VRel]
theorem VRel.str_iff {ρ : RMap} {s : List UInt8} {v : Value} : VRel ρ (.str s) v ↔ v = .string ⟨s.toArray⟩ := by simp [VRel]
theorem VRel.agg_iff {ρ : RMap} {cs : List AV} {v : Value} : VRel ρ (.agg cs) v ↔ ∃ xs : Array Value, v = .agg xs ∧ VRels ρ cs xs.toList := by simp [VRel]
theorem VRel.tuple_iff {ρ : RMap} {cs : List AV} {v : Value} : VRel ρ (.tuple cs) v ↔ ∃ xs : Array Value, v = .tuple xs ∧ VRels ρ cs xs.toList := by simp [VRel]
theorem VRel.iface_iff {ρ : RMap} {t : TypeId} {x : AV} {v : Value} : VRel ρ (.iface t x) v ↔ ∃ y, v = .iface t y ∧ VRel ρ x y := by simp [VRel]
theorem VRel.ptr_iff {ρ : RMap} {b o : Nat} {v : Value} : VRel ρ (.ptr b o) v ↔ ∃ i, ρ b = some i ∧ v = .pointer (some ⟨i.blk, i.off + o, none⟩) := by simp [VRel]
theorem VRel.sl_iff {ρ : RMap} {b o n sz : Nat} {v : Value} : VRel ρ (.sl b o n sz) v ↔
    ∃ i a cap, ρ b = some i ∧ v = .slice (some a) n cap ∧ n ≤ cap ∧ 0 < sz ∧ (0 < cap → a = ⟨i.blk, i.off + o, none⟩ ∧ o + cap * sz ≤ i.ext) := by simp [VRel]
theorem VRel.func_iff {ρ : RMap} {f : FuncId} {a b : List AV} {v : Value} : VRel ρ (.func f a b) v ↔ ∃ xs ys : Array Value, v = .func (.func f) xs ys ∧ VRels ρ a xs.toList ∧ VRels ρ b ys.toList := by simp [VRel]

theorem toList_mk (s : List UInt8) : (ByteArray.mk s.toArray).toList = s := by
  rw [ByteArray.toList_eq]
theorem size_mk (s : List UInt8) : (ByteArray.mk s.toArray).size = s.length := by
  simp [ByteArray.size]

theorem scal_rel (ρ : RMap) (v : Value) : VRel ρ (scal v) v := by
  cases v with
  | bool b => simp [scal, VRel]
  | int k n => simp [scal, VRel]
  | string s => obtain ⟨⟨l⟩⟩ := s; simp [scal, VRel]
  | pointer a => cases a <;> simp [scal, VRel]
  | slice a n c =>
    cases a with
    | some a => simp [scal, VRel]
    | none =>
      unfold scal
      split <;> simp_all [VRel]
  | map r => cases r <;> simp [scal, VRel]
  | _ => simp [scal, VRel]
theorem scals_rel (ρ : RMap) (vs : List Value) : VRels ρ (vs.map scal) vs := by
  induction vs with
  | nil => simp [VRels.nil_iff]
  | cons v vs ih => exact VRels.cons (scal_rel ρ v) ih
theorem ofConst_rel (ρ : RMap) (v : Value) : VRel ρ (ofConst v) v := by
  unfold ofConst
  split
  · rw [VRel.agg_iff]; exact ⟨_, rfl, scals_rel ρ _⟩
  · rw [VRel.tuple_iff]; exact ⟨_, rfl, scals_rel ρ _⟩
  · exact scal_rel ρ v
theorem acells_rel {ρ : RMap} {x : AV} {v : Value} {cs : List AV} (h : acells x = some cs) (r : VRel ρ x v) : VRels ρ cs v.cells.toList := by
  cases x with
  | junk => simp [acells] at h
  | tuple l => simp [acells] at h
  | agg l =>
    simp [acells] at h; subst h
    obtain ⟨xs, rfl, hx⟩ := VRel.agg_iff.1 r
    simpa [Value.cells] using hx
  | bool b => simp [acells] at h; subst h; rw [VRel.bool_iff] at r; subst r; simp [Value.cells, VRels, VRel]
  | int k n => simp [acells] at h; subst h; rw [VRel.int_iff] at r; subst r; simp [Value.cells, VRels, VRel]
  | str s => simp [acells] at h; subst h; rw [VRel.str_iff] at r; subst r; simp [Value.cells, VRels, VRel]
  | nilptr => simp [acells] at h; subst h; simp [VRel] at r; subst r; simp [Value.cells, VRels, VRel]
  | nilsl => simp [acells] at h; subst h; simp [VRel] at r; subst r; simp [Value.cells, VRels, VRel]
  | nilmap => simp [acells] at h; subst h; simp [VRel] at r; subst r; simp [Value.cells, VRels, VRel]
  | nilfunc => simp [acells] at h; subst h; simp [VRel] at r; subst r; simp [Value.cells, VRels, VRel]
  | niliface => simp [acells] at h; subst h; simp [VRel] at r; subst r; simp [Value.cells, VRels, VRel]
  | map b => simp [acells] at h; subst h; have r' := r; simp only [VRel] at r; obtain ⟨i, _, rfl⟩ := r; exact VRels.cons r' (VRels.nil_iff.2 rfl)
  | ptr b o => simp [acells] at h; subst h; have r' := r; simp only [VRel] at r; obtain ⟨i, _, rfl⟩ := r; exact VRels.cons r' (VRels.nil_iff.2 rfl)
  | sl b o n s => simp [acells] at h; subst h; have r' := r; simp only [VRel] at r; obtain ⟨i, a, c, _, rfl, _⟩ := r; exact VRels.cons r' (VRels.nil_iff.2 rfl)
  | func f a b => simp [acells] at h; subst h; have r' := r; simp only [VRel] at r; obtain ⟨i, a, rfl, _⟩ := r; exact VRels.cons r' (VRels.nil_iff.2 rfl)
  | iface t y => simp [acells] at h; subst h; have r' := r; simp only [VRel] at r; obtain ⟨i, rfl, _⟩ := r; exact VRels.cons r' (VRels.nil_iff.2 rfl)
theorem oneCell_of_isCell {ρ : RMap} {x : AV} {v : Value} (h : isCell x = true) (r : VRel ρ x v) : v.oneCell' = true := by
  cases x <;> first | (simp [isCell] at h; done) | skip
  all_goals simp only [VRel] at r
  all_goals first
    | (subst r; rfl)
    | (obtain ⟨_, _, rfl⟩ := r; rfl)
    | (obtain ⟨_, rfl, _⟩ := r; rfl)
    | (obtain ⟨_, _, _, _, rfl, _⟩ := r; rfl)
    | (obtain ⟨_, _, rfl, _⟩ := r; rfl)

section tables
variable {P : Program} {w : World}
theorem run_typeInfo' {t : TypeId} {i : TypeInfo} (h : P.info? t = some i) : (typeInfo t).run P w = .ok i w := by
  simp [typeInfo, h]
theorem run_underlying' {t : TypeId} {d : TypeDesc} (h : P.underlying t = some d) : (underlying t).run P w = .ok d w := by
  simp [underlying, h]
theorem run_tsz {t : TypeId} {n : Nat} (h : tsz P t = some n) : (sizeOf t).run P w = .ok n w := by
  unfold tsz at h
  cases hi : P.info? t with
  | none => simp [hi] at h
  | some i =>
    simp [hi] at h
    simp [sizeOf, run_typeInfo' hi, h]
theorem run_tagg {t : TypeId} {b : Bool} (h : tagg P t = some b) : (isAgg t).run P w = .ok b w := by
  unfold tagg at h
  cases hu : P.underlying t with
  | none => simp [hu] at h
  | some d =>
    rw [hu] at h
    simp only [isAgg, Sem.run_bind, run_underlying' hu, Result.andThen_ok]
    cases d <;> simp at h <;> subst h <;> rfl
theorem tzero_some {t : TypeId} {z : List AV} (h : tzero P t = some z) : ∃ i v, P.info? t = some i ∧ i.zero = some v ∧ z = v.cells.toList.map scal := by
  unfold tzero at h
  cases hi : P.info? t with
  | none => simp [hi] at h
  | some i =>
    cases hz : i.zero with
    | none => simp [hi, hz] at h
    | some v => simp [hi, hz] at h; exact ⟨i, v, rfl, hz, h.symm⟩
theorem run_zeroValue' {t : TypeId} {i : TypeInfo} {v : Value} (h : P.info? t = some i) (hz : i.zero = some v) : (zeroValue t).run P w = .ok v w := by
  simp [zeroValue, run_typeInfo' h, hz]
end tables

theorem run_aint {P : Program} {w : World} {op : BinOp} {t : TypeId} {k k' : IntKind} {a b : Int} {v : AV} (h : aint op k k' a b = some v) :
    ∃ v', (binOp op t (.int k a) (.int k' b)).run P w = .ok v' w ∧ ∀ ρ, VRel ρ v v' := by
  have hs : ∀ op', op' = .shl ∨ op' = .shr → aint op' k k' a b = some v → ∃ v', (binOp op' t (.int k a) (.int k' b)).run P w = .ok v' w ∧ ∀ ρ, VRel ρ v v' := by
    rintro op' (rfl | rfl) h
    · simp only [aint] at h
      by_cases hb : b < 0
      · simp [hb] at h
      · rw [if_neg hb] at h; cases h
        exact ⟨_, by simp [binOp, Op.shift, hb]; rfl, fun ρ => by simp [VRel]⟩
    · simp only [aint] at h
      by_cases hb : b < 0
      · simp [hb] at h
      · rw [if_neg hb] at h; cases h
        exact ⟨_, by simp [binOp, Op.shift, hb]; rfl, fun ρ => by simp [VRel]⟩
  by_cases hsh : op = .shl ∨ op = .shr
  · exact hs op hsh h
  · by_cases hk : k = k'
    · subst hk
      cases op <;> first
        | exact absurd (Or.inl rfl) hsh
        | exact absurd (Or.inr rfl) hsh
        | (simp only [aint, if_true] at h; cases h; exact ⟨_, by simp [binOp, Op.intArith, Op.intBits, Op.intCmp]; rfl, fun ρ => by simp [VRel]⟩)
        | (simp only [aint, if_true] at h
           by_cases hb : b = 0
           · simp [hb] at h
           · rw [if_neg hb] at h; cases h
             exact ⟨_, by simp [binOp, Op.intDiv, hb]; rfl, fun ρ => by simp [VRel]⟩)
    · exfalso
      cases op <;> first | (simp at hsh; done) | (simp [aint, hk] at h; done)

theorem run_astr {P : Program} {w : World} {op : BinOp} {t : TypeId} {a b : List UInt8} {v : AV} (h : astr op a b = some v) :
    ∃ v', (binOp op t (.string ⟨a.toArray⟩) (.string ⟨b.toArray⟩)).run P w = .ok v' w ∧ ∀ ρ, VRel ρ v v' := by
  have e : binOp op t (.string ⟨a.toArray⟩) (.string ⟨b.toArray⟩) = Op.stringOp op ⟨a.toArray⟩ ⟨b.toArray⟩ := by cases op <;> rfl
  rw [e]
  have hadd : op = .add → ∃ v', (Op.stringOp op ⟨a.toArray⟩ ⟨b.toArray⟩).run P w = .ok v' w ∧ ∀ ρ, VRel ρ v v' := by
    rintro rfl
    simp only [astr] at h
    by_cases hl : a.length + b.length ≤ 9223372036854775807
    · rw [if_pos hl] at h; cases h
      refine ⟨.string ⟨(a ++ b).toArray⟩, ?_, fun ρ => by simp [VRel]⟩
      simp only [Op.stringOp, size_mk]
      rw [if_neg (by simp [IntKind.max, IntKind.signed, IntKind.bits]; omega)]
      simp only [Sem.run_pure]
      congr 2
    · simp [hl] at h
  cases op <;> first
    | exact hadd rfl
    | (simp [astr] at h; done)
    | (simp only [astr] at h
       cases h
       exact ⟨_, by simp only [Op.stringOp, toList_mk]; rfl, fun ρ => by simp [VRel]⟩)

theorem extract_toList (xs : Array Value) (a b : Nat) : (xs.extract a (a + b)).toList = (xs.toList.drop a).take b := by
  simp [Array.toList_extract, List.extract_eq_take_drop]
theorem run_part {P : Program} {w : World} {ρ : RMap} {t : TypeId} {ag : Bool} {sz off : Nat} {cs : List AV} {xs : Array Value} {x : AV} (h1 : tagg P t = some ag) (h2 : tsz P t = some sz)
    (h3 : apart ag sz off cs = some x) (r : VRels ρ cs xs.toList) : ∃ v, (part t xs off).run P w = .ok v w ∧ VRel ρ x v := by
  unfold apart at h3
  cases ag with
  | true =>
    simp at h3; subst h3
    refine ⟨.agg (xs.extract off (off + sz)), ?_, VRel.agg_iff.2 ⟨_, rfl, ?_⟩⟩
    · simp [part, run_tagg h1, run_tsz h2]
    · rw [extract_toList]; exact (r.drop off).take sz
  | false =>
    simp at h3
    obtain ⟨v, hv, hr⟩ := r.get off x h3
    refine ⟨v, ?_, hr⟩
    have hv' : xs[off]? = some v := by simpa using hv
    simp [part, run_tagg h1, hv']

theorem run_eqFields {P : Program} {w : World} {ρ : RMap} {d : Nat} {cs ds : List AV} {xs ys : Array Value} (r : VRels ρ cs xs.toList) (s : VRels ρ ds ys.toList)
    (ih : ∀ (t : TypeId) (x y : AV) (b : Bool) (x' y' : Value), aeqIn P d t x y = some b → VRel ρ x x' → VRel ρ y y' → (Op.equalIn d t x' y').run P w = .ok b w) :
    ∀ (fs : List Field) (b : Bool), fs.foldr (fun f rest =>
        if f.name = "_" then rest else
        (tagg P f.type).bind fun ag => (tsz P f.type).bind fun sz => (apart ag sz f.offset cs).bind fun a => (apart ag sz f.offset ds).bind fun b =>
          (aeqIn P d f.type a b).bind fun r => if r then rest else some false) (some true) = some b → (Op.eqFields d xs ys fs).run P w = .ok b w
  | [], b, h => by simp at h; subst h; simp [Op.eqFields]
  | f :: fs, b, h => by
    simp only [List.foldr_cons] at h
    by_cases hn : f.name = "_"
    · rw [if_pos hn] at h
      simp [Op.eqFields, hn, run_eqFields r s ih fs b h]
    · rw [if_neg hn] at h
      obtain ⟨ag, h1, h⟩ := Option.bind_eq_some_iff.1 h
      obtain ⟨sz, h2, h⟩ := Option.bind_eq_some_iff.1 h
      obtain ⟨a, h3, h⟩ := Option.bind_eq_some_iff.1 h
      obtain ⟨c, h4, h⟩ := Option.bind_eq_some_iff.1 h
      obtain ⟨q, h5, h⟩ := Option.bind_eq_some_iff.1 h
      obtain ⟨va, ra, ka⟩ := run_part (w := w) h1 h2 h3 r
      obtain ⟨vb, rb, kb⟩ := run_part (w := w) h1 h2 h4 s
      have hq := ih f.type a c q va vb h5 ka kb
      simp only [Op.eqFields, ne_eq, hn, not_false_eq_true, if_true, Sem.run_bind, ra, rb, hq, Result.andThen_ok]
      cases q with
      | true => simp at h; simp [run_eqFields r s ih fs b h]
      | false => simp at h; subst h; simp
theorem run_eqElems {P : Program} {w : World} {ρ : RMap} {d : Nat} {e : TypeId} {ag : Bool} {sz : Nat} {cs ds : List AV} {xs ys : Array Value} (h1 : tagg P e = some ag) (h2 : tsz P e = some sz)
    (r : VRels ρ cs xs.toList) (s : VRels ρ ds ys.toList)
    (ih : ∀ (t : TypeId) (x y : AV) (b : Bool) (x' y' : Value), aeqIn P d t x y = some b → VRel ρ x x' → VRel ρ y y' → (Op.equalIn d t x' y').run P w = .ok b w) :
    ∀ (l : List Nat) (b : Bool), l.foldr (fun i rest => (apart ag sz (i * sz) cs).bind fun a => (apart ag sz (i * sz) ds).bind fun b =>
          (aeqIn P d e a b).bind fun r => if r then rest else some false) (some true) = some b →
      (forIn l ((none, ()) : Option Bool × Unit) fun i _ => do
        let a ← part e xs (i * sz)
        let b ← part e ys (i * sz)
        let q ← Op.equalIn d e a b
        if (!q) = true then pure (ForInStep.done (some false, ())) else pure (ForInStep.yield (none, ()))).run P w = .ok (if b then (none, ()) else (some false, ())) w
  | [], b, h => by simp at h; subst h; simp
  | i :: l, b, h => by
    simp only [List.foldr_cons] at h
    obtain ⟨a, h3, h⟩ := Option.bind_eq_some_iff.1 h
    obtain ⟨c, h4, h⟩ := Option.bind_eq_some_iff.1 h
    obtain ⟨q, h5, h⟩ := Option.bind_eq_some_iff.1 h
    obtain ⟨va, ra, ka⟩ := run_part (w := w) h1 h2 h3 r
    obtain ⟨vb, rb, kb⟩ := run_part (w := w) h1 h2 h4 s
    have hq := ih e a c q va vb h5 ka kb
    simp only [List.forIn_cons, Sem.run_bind, ra, rb, hq, Result.andThen_ok]
    cases q with
    | true => simp at h; simpa using run_eqElems h1 h2 r s ih l b h
    | false => simp at h; subst h; simp

set_option maxHeartbeats 2000000 in
theorem run_aeqIn {P : Program} {w : World} {ρ : RMap} : ∀ (d : Nat) (t : TypeId) (x y : AV) (b : Bool) (x' y' : Value), aeqIn P d t x y = some b → VRel ρ x x' → VRel ρ y y' →
    (Op.equalIn d t x' y').run P w = .ok b w
  | 0, _, _, _, _, _, _, h, _, _ => by simp [aeqIn] at h
  | d + 1, t, x, y, b, x', y', h, hx, hy => by
    have ih := run_aeqIn (P := P) (w := w) (ρ := ρ) d
    unfold aeqIn at h
    split at h
    case h_1 hu => rw [VRel.bool_iff] at hx hy; subst hx; subst hy; cases h; simp [Op.equalIn, run_underlying' hu]
    case h_2 hu =>
      rw [VRel.int_iff] at hx hy; subst hx; subst hy
      split at h
      · rename_i hk; cases h; subst hk; simp [Op.equalIn, run_underlying' hu]
      · cases h
    case h_3 hu => rw [VRel.str_iff] at hx hy; subst hx; subst hy; cases h; simp [Op.equalIn, run_underlying' hu, beq_toListBytes]
    case h_4 hu => simp only [VRel] at hx hy; subst hx; subst hy; cases h; simp [Op.equalIn, run_underlying' hu]
    case h_5 hu => simp only [VRel] at hx hy; obtain ⟨_, _, rfl⟩ := hy; subst hx; cases h; simp [Op.equalIn, run_underlying' hu]
    case h_6 hu => simp only [VRel] at hx hy; obtain ⟨_, _, rfl⟩ := hx; subst hy; cases h; simp [Op.equalIn, run_underlying' hu]
    case h_7 hu => simp only [VRel] at hx hy; subst hx; subst hy; cases h; simp [Op.equalIn, run_underlying' hu]
    case h_8 hu => simp only [VRel] at hx hy; obtain ⟨_, rfl, _⟩ := hy; subst hx; cases h; simp [Op.equalIn, run_underlying' hu]
    case h_9 hu => simp only [VRel] at hx hy; obtain ⟨_, rfl, _⟩ := hx; subst hy; cases h; simp [Op.equalIn, run_underlying' hu]
    case h_10 tx vx ty vy hu =>
      obtain ⟨a, rfl, ka⟩ := VRel.iface_iff.1 hx
      obtain ⟨c, rfl, kc⟩ := VRel.iface_iff.1 hy
      split at h
      · rename_i ht
        subst ht
        split at h
        · rename_i hc
          cases hi : P.info? tx with
          | none => simp [hi] at hc
          | some i =>
            simp [hi] at hc
            simp [Op.equalIn, run_underlying' hu, run_typeInfo' hi, hc, ih _ _ _ _ _ _ h ka kc]
        · cases h
      · rename_i ht; cases h; simp [Op.equalIn, run_underlying' hu, ht]
    case h_11 fs xs ys hu =>
      obtain ⟨a, rfl, ka⟩ := VRel.agg_iff.1 hx
      obtain ⟨c, rfl, kc⟩ := VRel.agg_iff.1 hy
      split at h
      · cases h
      · rename_i hp
        have hf : P.fieldsOf t = fs := by simp [Program.fieldsOf, hu]
        rw [run_equalIn_struct w d t a c (by rw [hf]; exact hu) (by simpa using hp), hf]
        exact run_eqFields ka kc ih _ _ h
    case h_12 len e xs ys hu =>
      obtain ⟨a, rfl, ka⟩ := VRel.agg_iff.1 hx
      obtain ⟨c, rfl, kc⟩ := VRel.agg_iff.1 hy
      obtain ⟨ag, h1, h⟩ := Option.bind_eq_some_iff.1 h
      obtain ⟨sz, h2, h⟩ := Option.bind_eq_some_iff.1 h
      simp only [Op.equalIn, Sem.run_bind, run_underlying' hu, run_tsz h2, Result.andThen_ok]
      have := run_eqElems h1 h2 ka kc ih _ _ h
      rw [Std.Legacy.Range.forIn_eq_forIn_range']
      simp only [Std.Legacy.Range.size, Nat.sub_zero, Nat.add_sub_cancel, Nat.div_one, ← List.range_eq_range']
      rw [this]
      cases b <;> simp
    case h_13 hu => simp only [VRel] at hx hy; subst hx; subst hy; cases h; simp [Op.equalIn, run_underlying' hu]
    case h_14 hu => simp only [VRel] at hx hy; obtain ⟨_, _, _, _, rfl, _⟩ := hy; subst hx; cases h; simp [Op.equalIn, run_underlying' hu]
    case h_15 hu => simp only [VRel] at hx hy; obtain ⟨_, _, _, _, rfl, _⟩ := hx; subst hy; cases h; simp [Op.equalIn, run_underlying' hu]
    case h_16 hu => simp only [VRel] at hx hy; subst hx; subst hy; cases h; simp [Op.equalIn, run_underlying' hu]
    case h_17 hu => simp only [VRel] at hx hy; obtain ⟨_, _, rfl⟩ := hy; subst hx; cases h; simp [Op.equalIn, run_underlying' hu]
    case h_18 hu => simp only [VRel] at hx hy; obtain ⟨_, _, rfl⟩ := hx; subst hy; cases h; simp [Op.equalIn, run_underlying' hu]
    case h_19 hu => simp only [VRel] at hx hy; subst hx; subst hy; cases h; simp [Op.equalIn, run_underlying' hu]
    case h_20 hu => simp only [VRel] at hx hy; obtain ⟨_, _, rfl, _⟩ := hy; subst hx; cases h; simp [Op.equalIn, run_underlying' hu]
    case h_21 hu => simp only [VRel] at hx hy; obtain ⟨_, _, rfl, _⟩ := hx; subst hy; cases h; simp [Op.equalIn, run_underlying' hu]
    case h_22 => cases h

end Go.Ab
end
section
/-
  Operations, one by one: binary, unary, loads, stores, slices, conversions.
-/
namespace Go.Ab
open Go.RowKit

set_option maxHeartbeats 2000000 in
theorem eqShape {P : Program} {ρ : RMap} {d : Nat} {t : TypeId} {x y : AV} {b : Bool} {x' y' : Value} (h : aeqIn P d t x y = some b) (hx : VRel ρ x x') (hy : VRel ρ y y') :
    (∃ k k' a c, x = .int k a ∧ y = .int k' c) ∨ (∃ a c, x = .str a ∧ y = .str c) ∨
    (binOp .eql t x' y' = (do pure (.bool (← Op.equal t x' y')))) ∧ (binOp .neq t x' y' = (do pure (.bool (!(← Op.equal t x' y'))))) ∧
      ((∃ cs ds us vs, x = .agg cs ∧ y = .agg ds ∧ x' = .agg us ∧ y' = .agg vs) ∨ (x = .niliface ∧ y = .niliface ∧ x' = .nilIface ∧ y' = .nilIface) ∨
        ∀ (op : BinOp) (ox oy : Operand) (w : World), (eqGuard op t ox oy x' y').run P w = .ok () w) := by
  cases d with
  | zero => simp [aeqIn] at h
  | succ d =>
  unfold aeqIn at h
  split at h
  case h_1 hu => rw [VRel.bool_iff] at hx hy; subst hx; subst hy; exact .inr (.inr ⟨rfl, rfl, .inr (.inr fun op _ _ _ => by cases op <;> rfl)⟩)
  case h_2 hu => exact .inl ⟨_, _, _, _, rfl, rfl⟩
  case h_3 hu => exact .inr (.inl ⟨_, _, rfl, rfl⟩)
  case h_4 hu => simp only [VRel] at hx hy; subst hx; subst hy; exact .inr (.inr ⟨rfl, rfl, .inr (.inr fun op _ _ _ => by cases op <;> rfl)⟩)
  case h_5 hu => simp only [VRel] at hx hy; obtain ⟨_, _, rfl⟩ := hy; subst hx; exact .inr (.inr ⟨rfl, rfl, .inr (.inr fun op _ _ _ => by cases op <;> rfl)⟩)
  case h_6 hu => simp only [VRel] at hx hy; obtain ⟨_, _, rfl⟩ := hx; subst hy; exact .inr (.inr ⟨rfl, rfl, .inr (.inr fun op _ _ _ => by cases op <;> rfl)⟩)
  case h_7 hu => simp only [VRel] at hx hy; subst hx; subst hy; exact .inr (.inr ⟨rfl, rfl, .inr (.inl ⟨rfl, rfl, rfl, rfl⟩)⟩)
  case h_8 hu => simp only [VRel] at hx hy; obtain ⟨_, rfl, _⟩ := hy; subst hx; exact .inr (.inr ⟨rfl, rfl, .inr (.inr fun op _ _ _ => by cases op <;> rfl)⟩)
  case h_9 hu => simp only [VRel] at hx hy; obtain ⟨_, rfl, _⟩ := hx; subst hy; exact .inr (.inr ⟨rfl, rfl, .inr (.inr fun op _ _ _ => by cases op <;> rfl)⟩)
  case h_10 tx vx ty vy hu =>
    obtain ⟨a, rfl, ka⟩ := VRel.iface_iff.1 hx
    obtain ⟨c, rfl, kc⟩ := VRel.iface_iff.1 hy
    exact .inr (.inr ⟨rfl, rfl, .inr (.inr fun op _ _ _ => by cases op <;> rfl)⟩)
  case h_11 fs xs ys hu =>
    obtain ⟨a, rfl, ka⟩ := VRel.agg_iff.1 hx
    obtain ⟨c, rfl, kc⟩ := VRel.agg_iff.1 hy
    exact .inr (.inr ⟨rfl, rfl, .inl ⟨_, _, _, _, rfl, rfl, rfl, rfl⟩⟩)
  case h_12 len e xs ys hu =>
    obtain ⟨a, rfl, ka⟩ := VRel.agg_iff.1 hx
    obtain ⟨c, rfl, kc⟩ := VRel.agg_iff.1 hy
    exact .inr (.inr ⟨rfl, rfl, .inl ⟨_, _, _, _, rfl, rfl, rfl, rfl⟩⟩)
  case h_13 hu => simp only [VRel] at hx hy; subst hx; subst hy; exact .inr (.inr ⟨rfl, rfl, .inr (.inr fun op _ _ _ => by cases op <;> rfl)⟩)
  case h_14 hu => simp only [VRel] at hx hy; obtain ⟨_, _, _, _, rfl, _⟩ := hy; subst hx; exact .inr (.inr ⟨rfl, rfl, .inr (.inr fun op _ _ _ => by cases op <;> rfl)⟩)
  case h_15 hu => simp only [VRel] at hx hy; obtain ⟨_, _, _, _, rfl, _⟩ := hx; subst hy; exact .inr (.inr ⟨rfl, rfl, .inr (.inr fun op _ _ _ => by cases op <;> rfl)⟩)
  case h_16 hu => simp only [VRel] at hx hy; subst hx; subst hy; exact .inr (.inr ⟨rfl, rfl, .inr (.inr fun op _ _ _ => by cases op <;> rfl)⟩)
  case h_17 hu => simp only [VRel] at hx hy; obtain ⟨_, _, rfl⟩ := hy; subst hx; exact .inr (.inr ⟨rfl, rfl, .inr (.inr fun op _ _ _ => by cases op <;> rfl)⟩)
  case h_18 hu => simp only [VRel] at hx hy; obtain ⟨_, _, rfl⟩ := hx; subst hy; exact .inr (.inr ⟨rfl, rfl, .inr (.inr fun op _ _ _ => by cases op <;> rfl)⟩)
  case h_19 hu => simp only [VRel] at hx hy; subst hx; subst hy; exact .inr (.inr ⟨rfl, rfl, .inr (.inr fun op _ _ _ => by cases op <;> rfl)⟩)
  case h_20 hu => simp only [VRel] at hx hy; obtain ⟨_, _, rfl, _⟩ := hy; subst hx; exact .inr (.inr ⟨rfl, rfl, .inr (.inr fun op _ _ _ => by cases op <;> rfl)⟩)
  case h_21 hu => simp only [VRel] at hx hy; obtain ⟨_, _, rfl, _⟩ := hx; subst hy; exact .inr (.inr ⟨rfl, rfl, .inr (.inr fun op _ _ _ => by cases op <;> rfl)⟩)
  case h_22 => cases h

theorem run_abin {P : Program} {w : World} {ρ : RMap} {op : BinOp} {t : TypeId} {ox oy : Operand} {x y v : AV} {x' y' : Value} (h : abin P op t (aeqOk P t ox oy x y) x y = some v)
    (hx : VRel ρ x x') (hy : VRel ρ y y') : ∃ v', (do eqGuard op t ox oy x' y'; binOp op t x' y').run P w = .ok v' w ∧ VRel ρ v v' := by
  by_cases hi : ∃ k k' a c, x = .int k a ∧ y = .int k' c
  · obtain ⟨k, k', a, c, rfl, rfl⟩ := hi
    rw [VRel.int_iff] at hx hy; subst hx; subst hy
    have g : (eqGuard op t ox oy (.int k a) (.int k' c)).run P w = .ok () w := by cases op <;> rfl
    obtain ⟨v', e, r⟩ := run_aint (P := P) (w := w) (t := t) (v := v) (by simpa [abin] using h)
    refine ⟨v', ?_, r ρ⟩
    simp [g, e]
  by_cases hs : ∃ a c, x = .str a ∧ y = .str c
  · obtain ⟨a, c, rfl, rfl⟩ := hs
    rw [VRel.str_iff] at hx hy; subst hx; subst hy
    have g : (eqGuard op t ox oy (.string ⟨a.toArray⟩) (.string ⟨c.toArray⟩)).run P w = .ok () w := by cases op <;> rfl
    obtain ⟨v', e, r⟩ := run_astr (P := P) (w := w) (t := t) (v := v) (by simpa [abin] using h)
    refine ⟨v', ?_, r ρ⟩
    simp [g, e]
  have h' : (if aeqOk P t ox oy x y then match op with
      | .eql => (aeqIn P Op.maxDepth t x y).map AV.bool
      | .neq => (aeqIn P Op.maxDepth t x y).map fun b => .bool !b
      | _ => none else none) = some v := by
    unfold abin at h
    split at h
    · exact absurd ⟨_, _, _, _, rfl, rfl⟩ hi
    · exact absurd ⟨_, _, rfl, rfl⟩ hs
    · exact h
  clear h
  by_cases hok : aeqOk P t ox oy x y = true
  · rw [if_pos hok] at h'
    have main : ∀ b, aeqIn P Op.maxDepth t x y = some b → (eqGuard op t ox oy x' y').run P w = .ok () w ∧ binOp .eql t x' y' = (do pure (.bool (← Op.equal t x' y'))) ∧ binOp .neq t x' y' = (do pure (.bool (!(← Op.equal t x' y')))) ∧ (Op.equal t x' y').run P w = .ok b w := by
      intro b hb
      have he := run_aeqIn (w := w) _ _ _ _ _ _ _ hb hx hy
      rcases eqShape hb hx hy with q | q | ⟨q1, q2, q3⟩
      · exact absurd q hi
      · exact absurd q hs
      · refine ⟨?_, q1, q2, he⟩
        rcases q3 with ⟨cs, ds, us, vs, rfl, rfl, rfl, rfl⟩ | ⟨rfl, rfl, rfl, rfl⟩ | q3
        · have : P.eqGuardType P.depth t = false := by simpa [aeqOk] using hok
          exact run_eqGuard_agg w op t ox oy us vs this
        · have hc : isConst ox = true ∨ isConst oy = true := by simpa [aeqOk] using hok
          have : ∀ o, isConst o = true → ∃ v, o = .const v := by intro o ho; cases o <;> simp [isConst] at ho; exact ⟨_, rfl⟩
          rcases hc with hc | hc
          · obtain ⟨u, rfl⟩ := this _ hc
            cases op <;> simp [eqGuard]
          · obtain ⟨u, rfl⟩ := this _ hc
            cases op <;> simp [eqGuard]
        · exact q3 op ox oy w
    cases op <;> first | (simp at h'; done) | skip
    · obtain ⟨b, hb, rfl⟩ := Option.map_eq_some_iff.1 h'
      obtain ⟨g, e1, e2, e3⟩ := main b hb
      exact ⟨.bool b, by simp [g, e1, e3], by simp [VRel]⟩
    · obtain ⟨b, hb, rfl⟩ := Option.map_eq_some_iff.1 h'
      obtain ⟨g, e1, e2, e3⟩ := main b hb
      exact ⟨.bool !b, by simp [g, e2, e3], by simp [VRel]⟩
  · rw [if_neg hok] at h'; cases h'

theorem run_aun {P : Program} {w : World} {ρ : RMap} {op : UnOp} {x v : AV} {x' : Value} (h : aun op x = some v) (hx : VRel ρ x x') : ∃ v', (Op.unary op x').run P w = .ok v' w ∧ VRel ρ v v' := by
  unfold aun at h
  split at h
  · rw [VRel.int_iff] at hx; subst hx; cases h
    exact ⟨_, rfl, by simp [VRel]⟩
  · rw [VRel.int_iff] at hx; subst hx; cases h
    exact ⟨_, rfl, by simp [VRel]⟩
  · rw [VRel.bool_iff] at hx; subst hx; cases h
    exact ⟨_, rfl, by simp [VRel]⟩
  · cases h

theorem add_plain (a : Addr) (n : Nat) (ha : a.spot = none) : a.add n = ⟨a.block, a.off + n, none⟩ := by
  unfold Addr.add
  by_cases h : n = 0
  · subst h; obtain ⟨b, o, s⟩ := a; simp at ha; simp [ha]
  · simp [h]

/-- Cells that stand one behind the other. -/
theorem run_cells {P : Program} {w : World} {ρ : RMap} {a : Addr} (ha : a.spot = none) (cs : List AV) (n : Nat) (hn : n = cs.length)
    (h : ∀ (j : Nat) (x : AV), cs[j]? = some x → ∃ v, w.cell? ⟨a.block, a.off + j, none⟩ = some v ∧ VRel ρ x v) :
    ∃ vs : List Value, (loadCells a n).run P w = .ok vs.toArray w ∧ VRels ρ cs vs ∧ ∀ j v, vs[j]? = some v → w.cell? ⟨a.block, a.off + j, none⟩ = some v := by
  subst hn
  have key : ∀ j, j < cs.length → ∃ v, w.cell? ⟨a.block, a.off + j, none⟩ = some v ∧ ∀ x, cs[j]? = some x → VRel ρ x v := by
    intro j hj
    obtain ⟨v, e, r⟩ := h j cs[j] (by simp [hj])
    exact ⟨v, e, fun x hx => by simp [hj] at hx; subst hx; exact r⟩
  let f : Nat → Value := fun j => (w.cell? ⟨a.block, a.off + j, none⟩).getD undef
  have hf : ∀ j, j < cs.length → w.cell? ⟨a.block, a.off + j, none⟩ = some (f j) := by
    intro j hj
    obtain ⟨v, e, _⟩ := key j hj
    simp [f, e]
  refine ⟨(List.range cs.length).map f, ?_, ?_, ?_⟩
  · exact run_loadCells w a cs.length f fun j hj => by rw [add_plain a j ha]; exact hf j hj
  · refine VRels.of_get (by simp) fun j x hx => ?_
    have hj := (List.getElem?_eq_some_iff.1 hx).1
    obtain ⟨v, e, r⟩ := key j hj
    refine ⟨v, ?_, r x hx⟩
    have := hf j hj
    rw [e] at this
    simp [hj]
    exact (Option.some.inj this).symm
  · intro j v hv
    have hj : j < cs.length := by
      have := (List.getElem?_eq_some_iff.1 hv).1
      simpa using this
    simp [hj] at hv
    rw [← hv]
    exact hf j hj

theorem run_aload {P : Program} {w : World} {B : Nat} {ρ : RMap} {h : AHeap} {t : TypeId} {ag : Bool} {sz : Nat} {x v : AV} {x' : Value} (hr : Rep B ρ h w) (h1 : tagg P t = some ag) (h2 : tsz P t = some sz)
    (hl : aload ag sz x h = some v) (hx : VRel ρ x x') : ∃ v', (Instr.loadAt t x').run P w = .ok v' w ∧ VRel ρ v v' := by
  unfold aload at hl
  split at hl
  · rename_i b o
    obtain ⟨i, hi, rfl⟩ := VRel.ptr_iff.1 hx
    split at hl
    · rename_i ro cs hg
      have hget := hr.get b i ro cs hi hg
      cases ag with
      | true =>
        simp only [if_true] at hl
        by_cases hle : o + sz ≤ cs.length
        · rw [if_pos hle] at hl; cases hl
          obtain ⟨vs, e, r, _⟩ := run_cells (P := P) (w := w) (ρ := ρ) (a := ⟨i.blk, i.off + o, none⟩) rfl ((cs.drop o).take sz) sz (by simp; omega) (by
            intro j y hy
            have hj : j < sz := by
              have := (List.getElem?_eq_some_iff.1 hy).1
              simp at this; omega
            rw [List.getElem?_take_of_lt hj, List.getElem?_drop] at hy
            obtain ⟨v, e, r⟩ := hget (o + j) y hy
            exact ⟨v, by simpa [Nat.add_assoc] using e, r⟩)
          refine ⟨.agg vs.toArray, ?_, VRel.agg_iff.2 ⟨_, rfl, by simpa using r⟩⟩
          simp [Instr.loadAt, Instr.sureAddr, loadVar, run_tagg h1, run_tsz h2, e]
        · rw [if_neg hle] at hl; cases hl
      | false =>
        simp at hl
        obtain ⟨v', e, r⟩ := hget o v hl
        refine ⟨v', ?_, r⟩
        simp [Instr.loadAt, Instr.sureAddr, loadVar, run_tagg h1, e]
    · cases hl
  · cases hl
end Go.Ab
end
section
/-
  Operations, one by one: stores, addresses, parts, slices, conversions, assertions.
-/
namespace Go.Ab
open Go.RowKit

theorem run_astore {P : Program} {w : World} {B : Nat} {ρ : RMap} {h h' : AHeap} {t : TypeId} {ag : Bool} {sz : Nat} {x v : AV} {x' v' : Value} (hr : Rep B ρ h w) (h1 : tagg P t = some ag) (h2 : tsz P t = some sz)
    (h3 : ag = false → sz = 1) (hl : astore ag sz x v h = some h') (hx : VRel ρ x x') (hv : VRel ρ v v') : ∃ w', (Instr.storeAt t x' v').run P w = .ok () w' ∧ Rep B ρ h' w' ∧ Evo B ρ h w ρ h' w' := by
  unfold astore at hl
  split at hl
  · rename_i b o
    obtain ⟨i, hi, rfl⟩ := VRel.ptr_iff.1 hx
    split at hl
    · rename_i cs hg
      -- what is stored: a list of cells
      have main : ∀ (vs : List AV) (us : List Value), o + vs.length ≤ cs.length → vs.all isCell = true → VRels ρ vs us → v'.cells.toList = us → vs.length = sz → h' = hset h b (splice cs o vs) →
          ∃ w', (Instr.storeAt t (.pointer (some ⟨i.blk, i.off + o, none⟩)) v').run P w = .ok () w' ∧ Rep B ρ h' w' ∧ Evo B ρ h w ρ h' w' := by
        intro vs us hle hall hrel hcells hsz he
        have hlen := hrel.length
        have hbd := hr.len b i false cs hi hg
        have hown := (hr.rw' b i cs hi hg).2
        have hone : ∀ u ∈ us, u.oneCell' = true := by
          intro u hu
          obtain ⟨j, hj, rfl⟩ := List.getElem_of_mem hu
          have hj' : j < vs.length := by omega
          obtain ⟨u', e, r⟩ := hrel.get j vs[j] (by simp [hj'])
          have : u' = us[j] := by simp [hj] at e; exact e.symm
          subst this
          exact oneCell_of_isCell (List.all_eq_true.1 hall _ (List.getElem_mem hj')) r
        obtain ⟨w', r, s, o1, o2, o3, hk, hfr, hgt, hot⟩ := run_storeCells (P := P) ⟨i.blk, i.off + o, none⟩ rfl us 0 w hone (by
          intro j hj
          obtain ⟨u, e, f⟩ := hown (o + j) (by omega)
          exact ⟨u, by simpa [Nat.add_assoc] using e, by simpa [Nat.add_assoc] using f⟩)
        have hB : Below B w w' := ⟨o1, o2, o3, Nat.le_of_eq s.symm, fun k hk' => hk k (by have := (hr.rw' b i cs hi hg).1; simp; omega)⟩
        have hcell : ∀ bi off, ¬ (bi = i.blk ∧ i.off ≤ off ∧ off < i.off + i.ext) → w'.cell? ⟨bi, off, none⟩ = w.cell? ⟨bi, off, none⟩ := by
          intro bi off hne
          exact hot bi off (by rintro ⟨q0, q1, q2⟩; simp at q1 q2; exact hne ⟨q0, by omega, by omega⟩)
        have hnew : ∀ j (u : Value), us[j]? = some u → w'.cell? ⟨i.blk, i.off + (o + j), none⟩ = some u := by
          intro j u hu
          have := hgt j u hu
          simpa [Nat.add_assoc] using this
        have hold : ∀ q, ¬ (o ≤ q ∧ q < o + us.length) → w'.cell? ⟨i.blk, i.off + q, none⟩ = w.cell? ⟨i.blk, i.off + q, none⟩ := by
          intro q hq
          exact hot _ _ (by simp; omega)
        obtain ⟨R, E⟩ := hr.write (w' := w') (cs' := splice cs o vs) hi hg hB s hcell hfr (by
            intro j hj
            by_cases hin : o ≤ j ∧ j < o + us.length
            · have hj' : j - o < us.length := by omega
              refine ⟨us[j - o], ?_⟩
              have := hnew (j - o) us[j - o] (by simp [hj'])
              rwa [show o + (j - o) = j from by omega] at this
            · obtain ⟨u, e, _⟩ := hown j hj
              exact ⟨u, by rw [hold j hin]; exact e⟩)
          (by simp [splice]; omega)
          (by
            intro j y hy
            unfold splice at hy
            by_cases hlo : j < o
            · rw [List.append_assoc, List.getElem?_append_left (by simp; omega), List.getElem?_take_of_lt hlo] at hy
              obtain ⟨u, e, r⟩ := hr.get b i false cs hi hg j y hy
              exact ⟨u, by rw [hold j (by omega)]; exact e, r⟩
            · by_cases hmid : j < o + vs.length
              · rw [List.append_assoc, List.getElem?_append_right (by simp; omega), List.getElem?_append_left (by simp; omega)] at hy
                have hto : (List.take o cs).length = o := by simp; omega
                rw [hto] at hy
                obtain ⟨u, e, r⟩ := hrel.get _ y hy
                refine ⟨u, ?_, r⟩
                have := hnew (j - o) u e
                rwa [show o + (j - o) = j from by omega] at this
              · rw [List.getElem?_append_right (by simp; omega), List.getElem?_drop] at hy
                have hto : (List.take o cs ++ vs).length = o + vs.length := by simp; omega
                rw [hto, show o + vs.length + (j - (o + vs.length)) = j from by omega] at hy
                obtain ⟨u, e, r⟩ := hr.get b i false cs hi hg j y hy
                exact ⟨u, by rw [hold j (by omega)]; exact e, r⟩)
        subst he
        refine ⟨w', ?_, R, E⟩
        have hc : v'.cells.size = sz := by rw [← Array.length_toList, hcells]; omega
        simp [Instr.storeAt, Instr.sureAddr, storeVar, run_tsz h2, hc, hcells, r]
      cases ag with
      | true =>
        simp only [if_true] at hl
        split at hl
        · rename_i vs
          obtain ⟨us, rfl, hu⟩ := VRel.agg_iff.1 hv
          by_cases hc : o + sz ≤ cs.length ∧ vs.length = sz ∧ vs.all isCell = true
          · rw [if_pos hc] at hl; cases hl
            exact main vs us.toList (by omega) hc.2.2 hu (by simp [Value.cells]) hc.2.1 rfl
          · rw [if_neg hc] at hl; cases hl
        · cases hl
      | false =>
        have h31 := h3 rfl
        subst h31
        simp only [Bool.false_eq_true, if_false] at hl
        by_cases hc : o < cs.length ∧ isCell v = true
        · rw [if_pos hc] at hl; cases hl
          have hac : acells v = some [v] := by
            cases v <;> simp [isCell] at hc <;> rfl
          refine main [v] [v'] (by simp; omega) (by simp [hc.2]) (VRels.cons hv (VRels.nil_iff.2 rfl)) ?_ rfl ?_
          · have := acells_rel hac hv
            have hl := this.length
            rw [VRels.cons_iff] at this
            obtain ⟨u, us, e, _, hn⟩ := this
            rw [VRels.nil_iff] at hn; subst hn
            rw [e]
            have h1c := oneCell_of_isCell hc.2 hv
            cases v' <;> simp [Value.cells] at e <;> first | (subst e; rfl) | (simp [Value.oneCell'] at h1c)
          · unfold splice
            rw [List.set_eq_take_append_cons_drop]
            simp [hc.1]
        · rw [if_neg hc] at hl; cases hl
    · cases hl
  · cases hl

theorem aptr_some {x v : AV} {off : Nat} (h : aptr x off = some v) : ∃ b o, x = .ptr b o ∧ v = .ptr b (o + off) := by
  unfold aptr at h
  split at h
  · cases h; exact ⟨_, _, rfl, rfl⟩
  · cases h

theorem run_fieldAt {P : Program} {w : World} {ρ : RMap} {t ft : TypeId} {f off sz : Nat} {x v : AV} {x' : Value} (h1 : afield P t f = some (ft, off)) (h2 : tsz P ft = some sz) (h3 : sz ≠ 0) (h4 : aptr x off = some v)
    (hx : VRel ρ x x') : ∃ v', (Instr.fieldAt t x' f).run P w = .ok v' w ∧ VRel ρ v v' := by
  unfold aptr at h4
  split at h4
  · rename_i b o
    cases h4
    obtain ⟨i, hi, rfl⟩ := VRel.ptr_iff.1 hx
    unfold afield at h1
    obtain ⟨d, hu, h1⟩ := Option.bind_eq_some_iff.1 h1
    split at h1
    · rename_i fs
      obtain ⟨y, hy, e⟩ := Option.map_eq_some_iff.1 h1
      cases e
      refine ⟨.pointer (some ⟨i.blk, i.off + (o + y.offset), none⟩), ?_, VRel.ptr_iff.2 ⟨i, hi, rfl⟩⟩
      simp only [Instr.fieldAt, Sem.run_bind, run_underlying' hu, Result.andThen_ok, hy]
      simp [Instr.sureAddr, fieldPlace, run_tsz h2, h3, add_plain, Nat.add_assoc]
    · cases h1
  · cases h4

theorem run_indexAt {P : Program} {w : World} {ρ : RMap} {t : TypeId} {x i v : AV} {x' i' : Value} (h : aindexAddr P t x i = some v) (hx : VRel ρ x x') (hi : VRel ρ i i') :
    ∃ v', (Instr.indexAt t x' i').run P w = .ok v' w ∧ VRel ρ v v' := by
  unfold aindexAddr at h
  split at h
  · rename_i len e k n hu
    rw [VRel.int_iff] at hi; subst hi
    obtain ⟨sz, hs, h⟩ := Option.bind_eq_some_iff.1 h
    by_cases hc : 0 ≤ n ∧ n < len
    · rw [if_pos hc] at h
      obtain ⟨b, o, rfl, rfl⟩ := aptr_some h
      obtain ⟨j, hj, rfl⟩ := VRel.ptr_iff.1 hx
      refine ⟨.pointer (some ⟨j.blk, j.off + (o + n.toNat * sz), none⟩), ?_, VRel.ptr_iff.2 ⟨j, hj, rfl⟩⟩
      simp [Instr.indexAt, asIntOf, run_underlying' hu, Instr.sureAddr, hc, run_tsz hs, add_plain, Nat.add_assoc]
    · rw [if_neg hc] at h; cases h
  · rename_i e k n hu
    rw [VRel.int_iff] at hi; subst hi
    obtain ⟨sz, hs, h⟩ := Option.bind_eq_some_iff.1 h
    split at h
    · rename_i b o m sz' x0
      split at h
      · rename_i hc
        cases h
        obtain ⟨j, a, cap, hj, rfl, hcap, hpos, ha⟩ := VRel.sl_iff.1 hx
        obtain ⟨rfl, h0, h1⟩ := hc
        obtain ⟨rfl, _⟩ := ha (by omega)
        refine ⟨.pointer (some ⟨j.blk, j.off + (o + n.toNat * sz'), none⟩), ?_, VRel.ptr_iff.2 ⟨j, hj, rfl⟩⟩
        simp [Instr.indexAt, asIntOf, run_underlying' hu, h0, h1, run_tsz hs, add_plain, Nat.add_assoc]
      · cases h
    · cases h
  · cases h

theorem run_index {P : Program} {w : World} {ρ : RMap} {t : TypeId} {x i v : AV} {x' i' : Value} (h : aindex P t x i = some v) (hx : VRel ρ x x') (hi : VRel ρ i i') :
    ∃ v', (Instr.index t x' i').run P w = .ok v' w ∧ VRel ρ v v' := by
  unfold aindex at h
  split at h
  · rename_i len e cs k n hu
    rw [VRel.int_iff] at hi; subst hi
    obtain ⟨xs, rfl, hxs⟩ := VRel.agg_iff.1 hx
    obtain ⟨ag, hg, h⟩ := Option.bind_eq_some_iff.1 h
    obtain ⟨sz, hs, h⟩ := Option.bind_eq_some_iff.1 h
    by_cases hc : 0 ≤ n ∧ n < len
    · rw [if_pos hc] at h
      obtain ⟨v', e1, r⟩ := run_part (w := w) hg hs h hxs
      exact ⟨v', by simp [Instr.index, asIntOf, run_underlying' hu, hc, run_tsz hs, e1], r⟩
    · rw [if_neg hc] at h; cases h
  · rename_i s k n hu
    rw [VRel.int_iff] at hi; subst hi
    rw [VRel.str_iff] at hx; subst hx
    by_cases hc : 0 ≤ n
    · rw [if_pos hc] at h
      obtain ⟨b, hb, rfl⟩ := Option.map_eq_some_iff.1 h
      have hlt := (List.getElem?_eq_some_iff.1 hb).1
      have hbe : s[n.toNat] = b := (List.getElem?_eq_some_iff.1 hb).2
      refine ⟨.int .u8 b.toNat, ?_, VRel.int_iff.2 rfl⟩
      have : (ByteArray.mk s.toArray)[n.toNat]? = some b := by
        rw [getElem?_pos _ _ (by simpa [ByteArray.size] using hlt)]
        congr 1
      simp [Instr.index, asIntOf, run_underlying' hu, hc, this]
    · rw [if_neg hc] at h; cases h
  · cases h

theorem run_field {P : Program} {w : World} {ρ : RMap} {t : TypeId} {f : Nat} {x v : AV} {x' : Value} (h : afieldOf P t x f = some v) (hx : VRel ρ x x') :
    ∃ v', (Instr.field t x' f).run P w = .ok v' w ∧ VRel ρ v v' := by
  unfold afieldOf at h
  obtain ⟨⟨ft, off⟩, h1, h⟩ := Option.bind_eq_some_iff.1 h
  obtain ⟨ag, h2, h⟩ := Option.bind_eq_some_iff.1 h
  obtain ⟨sz, h3, h⟩ := Option.bind_eq_some_iff.1 h
  split at h
  · obtain ⟨xs, rfl, hxs⟩ := VRel.agg_iff.1 hx
    unfold afield at h1
    obtain ⟨d, hu, h1⟩ := Option.bind_eq_some_iff.1 h1
    split at h1
    · obtain ⟨y, hy, e⟩ := Option.map_eq_some_iff.1 h1
      cases e
      obtain ⟨v', e1, r⟩ := run_part (w := w) h2 h3 h hxs
      exact ⟨v', by simp [Instr.field, run_underlying' hu, hy, asAgg, e1], r⟩
    · cases h1
  · cases h

theorem run_extract {P : Program} {w : World} {ρ : RMap} {i : Nat} {x v : AV} {x' : Value} (h : aextract x i = some v) (hx : VRel ρ x x') : ∃ v', (Instr.extract x' i).run P w = .ok v' w ∧ VRel ρ v v' := by
  unfold aextract at h
  split at h
  · obtain ⟨xs, rfl, hxs⟩ := VRel.tuple_iff.1 hx
    obtain ⟨v', e, r⟩ := hxs.get i v h
    exact ⟨v', by have : xs[i]? = some v' := by simpa using e
                  simp [Instr.extract, this], r⟩
  · cases h

theorem run_pick {P : Program} {w : World} {ρ : RMap} {c a b v : AV} {c' a' b' : Value} (h : apick c a b = some v) (hc : VRel ρ c c') (ha : VRel ρ a a') (hb : VRel ρ b b') :
    ∃ v', (do pure (Next.value (if ← asBool c' then a' else b')) : Sem Next).run P w = .ok (.value v') w ∧ VRel ρ v v' := by
  unfold apick at h
  split at h
  · cases h; rw [VRel.bool_iff] at hc; subst hc; exact ⟨a', by simp [asBool], ha⟩
  · cases h; rw [VRel.bool_iff] at hc; subst hc; exact ⟨b', by simp [asBool], hb⟩
  · cases h

theorem run_minmax {P : Program} {w : World} {ρ : RMap} {mx : Bool} : ∀ {xs : List AV} {vs : List Value} {x v : AV} {x' : Value}, aminmax mx x xs = some v → VRel ρ x x' → VRels ρ xs vs →
    ∃ v', (vs.foldlM (if mx then Builtin.max2 else Builtin.min2) x').run P w = .ok v' w ∧ VRel ρ v v'
  | [], vs, x, v, x', h, hx, hs => by
    rw [VRels.nil_iff] at hs; subst hs
    unfold aminmax at h
    split at h
    · cases h; exact ⟨x', by simp, hx⟩
    · cases h
  | y :: ys, vs, x, v, x', h, hx, hs => by
    obtain ⟨u, us, rfl, hy, hs'⟩ := VRels.cons_iff.1 hs
    clear hs
    unfold aminmax at h
    split at h
    · rename_i h0; cases h0
    · rename_i k a k' b r h0
      cases h0
      rw [VRel.int_iff] at hx hy; subst hx; subst hy
      obtain ⟨v', e, q⟩ := run_minmax h (VRel.int_iff.2 rfl) hs'
      refine ⟨v', ?_, q⟩
      rw [List.foldlM_cons]
      cases mx <;> simpa [Builtin.max2, Builtin.min2] using e
    · cases h
end Go.Ab
end
section
/-
  Operations, one by one: slices, conversions, assertions, values that are built, new rows.
-/
namespace Go.Ab
open Go.RowKit

theorem run_bound {P : Program} {w : World} {ρ : RMap} {x : AV} {v : Value} {d y n : Nat} (c : BoundsCode) (h : abound (some x) d y = some n) (hx : VRel ρ x v) :
    (Instr.sliceBound v y c).run P w = .ok n w ∧ n ≤ y := by
  unfold abound at h
  split at h
  · rename_i h0; cases h0
  · rename_i k i h0
    cases h0
    rw [VRel.int_iff] at hx; subst hx
    split at h
    · rename_i hc
      cases h
      refine ⟨by simp [Instr.sliceBound, asIntOf, hc], ?_⟩
      omega
    · cases h
  · cases h
/-- An operand that may be missing. -/
def ORel (ρ : RMap) : Option AV → Option Value → Prop
  | none, none => True
  | some x, some v => VRel ρ x v
  | _, _ => False
theorem run_bounds {P : Program} {w : World} {ρ : RMap} {lo hi : Option AV} {lo' hi' : Option Value} {isS : Bool} {len cap y i j : Nat} (hy : y ≤ cap) (hl : len ≤ y)
    (h1 : abound hi len y = some j) (h2 : abound lo 0 j = some i) (hlo : ORel ρ lo lo') (hhi : ORel ρ hi hi') :
    (Instr.sliceBounds isS len cap lo' hi' none).run P w = .ok (i, j, cap) w ∧ i ≤ j ∧ j ≤ y := by
  have hj : ∀ c, (match hi', (none : Option Value) with
    | some v, some _ => Instr.sliceBound v cap .slice3B
    | some v, none => Instr.sliceBound v cap c
    | none, none => pure len
    | none, some _ => stuck "Slice: max without high").run P w = .ok j w ∧ j ≤ y := by
    intro c
    cases hi with
    | none =>
      cases hi' with
      | some _ => exact hhi.elim
      | none => simp [abound] at h1; subst h1; exact ⟨by simp, hl⟩
    | some x =>
      cases hi' with
      | none => exact hhi.elim
      | some v =>
        have hk := (run_bound (P := P) (w := w) c h1 hhi).2
        refine ⟨?_, hk⟩
        have hx : abound (some x) len cap = some j := by
          unfold abound at h1 ⊢
          split at h1
          · rename_i h0; cases h0
          · rename_i k i h0
            cases h0
            split at h1
            · rename_i hc; cases h1; simp; omega
            · cases h1
          · cases h1
        exact (run_bound (P := P) (w := w) c hx hhi).1
  have hi0 : ∀ c, (match lo' with
    | some v => Instr.sliceBound v j c
    | none => pure 0).run P w = .ok i w ∧ i ≤ j := by
    intro c
    cases lo with
    | none =>
      cases lo' with
      | some _ => exact hlo.elim
      | none => simp [abound] at h2; subst h2; exact ⟨by simp, by omega⟩
    | some x =>
      cases lo' with
      | none => exact hlo.elim
      | some v => exact run_bound (P := P) (w := w) c h2 hlo
  refine ⟨?_, (hi0 .sliceB).2, (hj .sliceB).2⟩
  have e1 := (hj (if isS then .sliceAcap else .sliceAlen)).1
  have e2 := (hi0 .sliceB).1
  cases hi' <;> cases lo' <;> simp at e1 e2 <;> first
    | (subst e1; subst e2; simp [Instr.sliceBounds])
    | (subst e1; simp [Instr.sliceBounds, e2])
    | (subst e2; simp [Instr.sliceBounds, e1])
    | simp [Instr.sliceBounds, e1, e2]

theorem run_aslice {P : Program} {w : World} {B : Nat} {ρ : RMap} {h : AHeap} {t : TypeId} {x v : AV} {lo hi : Option AV} {x' : Value} {lo' hi' : Option Value} (hr : Rep B ρ h w) (hs : aslice P t x lo hi h = some v)
    (hx : VRel ρ x x') (hlo : ORel ρ lo lo') (hhi : ORel ρ hi hi') : ∃ v', (Instr.sliceAt t x' lo' hi' none).run P w = .ok v' w ∧ VRel ρ v v' := by
  unfold aslice at hs
  split at hs
  · rename_i hu
    split at hs
    · rename_i s
      obtain ⟨j, h1, hs⟩ := Option.bind_eq_some_iff.1 hs
      obtain ⟨i, h2, hs⟩ := Option.bind_eq_some_iff.1 hs
      cases hs
      rw [VRel.str_iff] at hx; subst hx
      obtain ⟨e, hij, hjs⟩ := run_bounds (P := P) (w := w) (isS := false) (Nat.le_refl s.length) (Nat.le_refl _) h1 h2 hlo hhi
      refine ⟨.string ⟨((s.take j).drop i).toArray⟩, ?_, VRel.str_iff.2 rfl⟩
      simp only [Instr.sliceAt, Sem.run_bind, run_underlying' hu, Result.andThen_ok, Instr.slice, size_mk, e, Option.isSome_none, Bool.false_eq_true, if_false, Sem.run_pure]
      congr 2
      apply ByteArray.ext
      apply Array.ext'
      simp [List.extract_eq_take_drop, List.drop_take]
    · cases hs
  · rename_i el hu
    obtain ⟨sz, hz, hs⟩ := Option.bind_eq_some_iff.1 hs
    split at hs
    · obtain ⟨j, h1, hs⟩ := Option.bind_eq_some_iff.1 hs
      obtain ⟨i, h2, hs⟩ := Option.bind_eq_some_iff.1 hs
      cases hs
      simp only [VRel] at hx; subst hx
      obtain ⟨e, hij, hjs⟩ := run_bounds (P := P) (w := w) (isS := true) (Nat.le_refl 0) (Nat.le_refl _) h1 h2 hlo hhi
      have hj : j = 0 := by omega
      have hi0 : i = 0 := by omega
      subst hj; subst hi0
      refine ⟨.slice none 0 0, ?_, by simp [VRel]⟩
      simp [Instr.sliceAt, run_underlying' hu, Instr.slice, e, run_tsz hz]
    · rename_i b o n sz' x0
      split at hs
      · rename_i hsz
        subst hsz
        obtain ⟨j, h1, hs⟩ := Option.bind_eq_some_iff.1 hs
        obtain ⟨i, h2, hs⟩ := Option.bind_eq_some_iff.1 hs
        cases hs
        obtain ⟨q, a, cap, hq, rfl, hcap, hpos, ha⟩ := VRel.sl_iff.1 hx
        obtain ⟨e, hij, hjs⟩ := run_bounds (P := P) (w := w) (isS := true) hcap (Nat.le_refl n) h1 h2 hlo hhi
        refine ⟨.slice (some (if cap = i then a else a.add (i * sz'))) (j - i) (cap - i), ?_, VRel.sl_iff.2 ⟨q, _, _, hq, rfl, by omega, hpos, ?_⟩⟩
        · simp only [Instr.sliceAt, Sem.run_bind, run_underlying' hu, Result.andThen_ok, Instr.slice, e, run_tsz hz, Sem.run_pure]
          by_cases hc : cap = i <;> simp [hc]
        · intro hlt
          obtain ⟨rfl, hle⟩ := ha (by omega)
          rw [if_neg (by omega), add_plain _ _ rfl]
          refine ⟨by simp [Nat.add_assoc], ?_⟩
          have : i * sz' + (cap - i) * sz' = cap * sz' := by rw [← Nat.add_mul]; congr 1; omega
          omega
      · cases hs
    · cases hs
  · rename_i n el hu
    obtain ⟨sz, hz, hs⟩ := Option.bind_eq_some_iff.1 hs
    split at hs
    · rename_i b o x0
      split at hs
      · rename_i ro cs hg
        split at hs
        · rename_i hc
          obtain ⟨j, h1, hs⟩ := Option.bind_eq_some_iff.1 hs
          obtain ⟨i, h2, hs⟩ := Option.bind_eq_some_iff.1 hs
          cases hs
          obtain ⟨q, hq, rfl⟩ := VRel.ptr_iff.1 hx
          obtain ⟨e, hij, hjs⟩ := run_bounds (P := P) (w := w) (isS := false) (Nat.le_refl n) (Nat.le_refl n) h1 h2 hlo hhi
          refine ⟨.slice (some (if n = i then ⟨q.blk, q.off + o, none⟩ else Addr.add ⟨q.blk, q.off + o, none⟩ (i * sz))) (j - i) (n - i), ?_, VRel.sl_iff.2 ⟨q, _, _, hq, rfl, by omega, hc.2, ?_⟩⟩
          · simp only [Instr.sliceAt, Sem.run_bind, run_underlying' hu, Result.andThen_ok, e, run_tsz hz, Sem.run_pure, Instr.sureAddr]
          · intro hlt
            rw [if_neg (by omega), add_plain _ _ rfl]
            refine ⟨by simp [Nat.add_assoc], ?_⟩
            have hle := hr.len b q ro cs hq hg
            have : i * sz + (n - i) * sz = n * sz := by rw [← Nat.add_mul]; congr 1; omega
            omega
        · cases hs
      · cases hs
    · cases hs
  · cases hs
end Go.Ab
end
section
/-
  Operations, one by one: conversions, assertions, values that are built, new rows, append and copy.
-/
namespace Go.Ab
open Go.RowKit

theorem run_asrc {P : Program} {w : World} {B : Nat} {ρ : RMap} {h : AHeap} {sz m : Nat} {x : AV} {cs : List AV} {x' : Value} (hr : Rep B ρ h w) (hs : asrc sz x h = some cs) (hm : alenOf x = some m) (h0 : 0 < sz) (hx : VRel ρ x x') :
    (Builtin.lenOf x').run P w = .ok m w ∧ cs.length = m * sz ∧
    ∀ n, n ≤ m → ∃ vs : List Value, (Builtin.firstCells sz n x').run P w = .ok vs.toArray w ∧ VRels ρ (cs.take (n * sz)) vs := by
  unfold asrc at hs
  split at hs
  · cases hs
    simp [alenOf] at hm; subst hm
    simp only [VRel] at hx; subst hx
    refine ⟨by simp [Builtin.lenOf], by simp, fun n hn => ⟨[], by simp [Builtin.firstCells], by simp [VRels.nil_iff]⟩⟩
  · rename_i b o n sz'
    simp [alenOf] at hm; subst hm
    split at hs
    · rename_i hsz
      subst hsz
      split at hs
      · rename_i ro bs hg
        split at hs
        · rename_i hle
          cases hs
          obtain ⟨i, a, cap, hi, rfl, hcap, hpos, ha⟩ := VRel.sl_iff.1 hx
          have hlen : ((bs.drop o).take (n * sz')).length = n * sz' := by simp; omega
          refine ⟨by simp [Builtin.lenOf], hlen, fun k hk => ?_⟩
          rcases Nat.eq_zero_or_pos k with hz | hz
          · subst hz
            exact ⟨[], by simp [Builtin.firstCells, loadCells, loadCellsFrom], by simp [VRels.nil_iff]⟩
          · obtain ⟨rfl, _⟩ := ha (by omega)
            have hkn : k * sz' ≤ n * sz' := Nat.mul_le_mul_right _ hk
            obtain ⟨vs, e, r, _⟩ := run_cells (P := P) (w := w) (ρ := ρ) (a := ⟨i.blk, i.off + o, none⟩) rfl (((bs.drop o).take (n * sz')).take (k * sz')) (k * sz') (by simp; omega) (by
              intro j y hy
              have hj : j < k * sz' := by
                have := (List.getElem?_eq_some_iff.1 hy).1
                simp at this; omega
              rw [List.getElem?_take_of_lt hj, List.getElem?_take_of_lt (by omega), List.getElem?_drop] at hy
              obtain ⟨v, e, r⟩ := hr.get b i ro bs hi hg (o + j) y hy
              exact ⟨v, by simpa [Nat.add_assoc] using e, r⟩)
            exact ⟨vs, by simpa [Builtin.firstCells] using e, r⟩
        · cases hs
      · cases hs
    · cases hs
  · rename_i s
    simp [alenOf] at hm; subst hm
    split at hs
    · rename_i h1
      subst h1
      cases hs
      rw [VRel.str_iff] at hx; subst hx
      refine ⟨by simp [Builtin.lenOf, size_mk], by simp [ofBytes], fun n hn => ?_⟩
      refine ⟨(s.take n).map fun b => .int .u8 b.toNat, ?_, ?_⟩
      · simp only [Builtin.firstCells, Sem.run_pure]
        congr 1
        apply Array.ext'
        simp
      · rw [Nat.mul_one]
        unfold ofBytes
        rw [← List.map_take]
        exact VRels.map _ _ _ fun b _ => VRel.int_iff.2 rfl
    · cases hs
  · cases hs

theorem run_alen {P : Program} {w : World} {ρ : RMap} {t ty : TypeId} {x : AV} {n : Nat} {x' : Value} (h : alen P t x = some n) (hx : VRel ρ x x') : (Builtin.len_ #[t] ty #[x']).run P w = .ok (.int .i64 n) w := by
  unfold alen at h
  split at h
  · rename_i hu; cases h; rw [VRel.str_iff] at hx; subst hx; simp [Builtin.len_, run_underlying' hu, goInt, size_mk]
  · rename_i hu; cases h; simp [Builtin.len_, run_underlying' hu, goInt]
  · rename_i hu; cases h; simp only [VRel] at hx; subst hx; simp [Builtin.len_, run_underlying' hu, goInt]
  · rename_i hu; cases h
    obtain ⟨i, a, cap, _, rfl, _⟩ := VRel.sl_iff.1 hx
    simp [Builtin.len_, run_underlying' hu, goInt]
  · cases h

theorem abytes_spec : ∀ {cs : List AV} {s : List UInt8}, abytes cs = some s → ∃ ns : List Int, cs = ns.map (AV.int .u8) ∧ s = ns.map fun n => UInt8.ofNat n.toNat
  | [], s, h => by simp [abytes] at h; subst h; exact ⟨[], rfl, rfl⟩
  | c :: cs, s, h => by
    unfold abytes at h
    split at h
    · rename_i h0; cases h0
    · rename_i n r h0
      cases h0
      obtain ⟨s', h', rfl⟩ := Option.map_eq_some_iff.1 h
      obtain ⟨ns, rfl, rfl⟩ := abytes_spec h'
      exact ⟨n :: ns, rfl, rfl⟩
    · cases h
theorem vrels_ints {ρ : RMap} : ∀ {ns : List Int} {vs : List Value}, VRels ρ (ns.map (AV.int .u8)) vs → vs = ns.map (Value.int .u8)
  | [], vs, h => by simpa [VRels.nil_iff] using h
  | n :: ns, vs, h => by
    simp only [List.map_cons, VRels.cons_iff] at h
    obtain ⟨v, vs', rfl, hv, hs⟩ := h
    rw [VRel.int_iff] at hv; subst hv
    rw [vrels_ints hs]; rfl
theorem foldl_push (ns : List Int) (s : ByteArray) : (ns.foldl (fun r n => r.push (UInt8.ofNat n.toNat)) s).data.toList = s.data.toList ++ ns.map fun n => UInt8.ofNat n.toNat := by
  induction ns generalizing s with
  | nil => simp
  | cons n ns ih =>
    simp only [List.foldl_cons, List.map_cons]
    rw [ih]
    simp [ByteArray.push]

theorem run_aconv {P : Program} {w : World} {B : Nat} {ρ : RMap} {h : AHeap} {s d : TypeId} {x v : AV} {x' : Value} (hr : Rep B ρ h w) (hs : aconv P s d x h = some v) (hx : VRel ρ x x') :
    ∃ v', (convert s d x').run P w = .ok v' w ∧ VRel ρ v v' := by
  unfold aconv at hs
  split at hs
  · rename_i ds k k' n hu hd
    cases hs
    rw [VRel.int_iff] at hx; subst hx
    refine ⟨.int k (k.wrap n), ?_, VRel.int_iff.2 rfl⟩
    simp only [convert, Sem.run_bind, run_underlying' hu, run_underlying' hd, Result.andThen_ok]
    rfl
  · rename_i ds l hu hd
    cases hs
    rw [VRel.str_iff] at hx; subst hx
    refine ⟨.string ⟨l.toArray⟩, ?_, VRel.str_iff.2 rfl⟩
    simp only [convert, Sem.run_bind, run_underlying' hu, run_underlying' hd, Result.andThen_ok]
    rfl
  · rename_i x o1 o2 x2 e hu hd hns
    split at hs
    · rename_i he
      obtain ⟨cs, hc, hs⟩ := Option.bind_eq_some_iff.1 hs
      obtain ⟨l, hl, rfl⟩ := Option.map_eq_some_iff.1 hs
      obtain ⟨ns, rfl, rfl⟩ := abytes_spec hl
      refine ⟨.string ⟨(ns.map fun n => UInt8.ofNat n.toNat).toArray⟩, ?_, VRel.str_iff.2 rfl⟩
      cases x with
      | nilsl =>
        simp [asrc] at hc; subst hc
        simp only [VRel] at hx; subst hx
        simp only [convert, Sem.run_bind, run_underlying' hu, run_underlying' hd, run_underlying' he, Result.andThen_ok, Conv.bytesToString]
        rfl
      | sl b o n sz' =>
        obtain ⟨_, hlen, hf⟩ := run_asrc (P := P) (m := n) hr hc rfl (by omega) hx
        obtain ⟨vs, e1, r⟩ := hf n (Nat.le_refl _)
        rw [List.take_of_length_le (by omega)] at r
        obtain ⟨i, a, cap, hi, rfl, _⟩ := VRel.sl_iff.1 hx
        simp only [Builtin.firstCells, Nat.mul_one] at e1
        simp only [convert, Sem.run_bind, run_underlying' hu, run_underlying' hd, run_underlying' he, Result.andThen_ok, Conv.bytesToString, e1, List.forIn_toArray]
        rw [vrels_ints r, run_forIn_bytes _ (by intro n r; simp)]
        simp only [Result.andThen_ok, Sem.run_pure]
        congr 2
        apply ByteArray.ext
        apply Array.ext'
        rw [foldl_push]
        simp
      | str s => exact absurd rfl (hns s)
      | _ => simp [asrc] at hc
    · cases hs
  · cases hs

theorem run_makeIface {P : Program} {w : World} {t : TypeId} {d : TypeDesc} {x : Value} (h : P.underlying t = some d) (hd : ∀ ms, d ≠ .interface ms) : (Instr.makeInterface t x).run P w = .ok (.iface t x) w := by
  simp only [Instr.makeInterface, Sem.run_bind, run_underlying' h, Result.andThen_ok]
  cases d <;> first | rfl | exact absurd rfl (hd _)

theorem run_aassert {P : Program} {w : World} {ρ : RMap} {xt t : TypeId} {ok : Bool} {x v : AV} {x' : Value} (h : aassert P x t ok = some v) (hx : VRel ρ x x') :
    ∃ v', (Instr.typeAssert x' xt t ok).run P w = .ok v' w ∧ VRel ρ v v' := by
  have pair : ∀ {a : AV} {a' : Value} {b : Bool}, VRel ρ a a' → VRel ρ (.tuple [a, .bool b]) (.tuple #[a', .bool b]) := by
    intro a a' b ha
    exact VRel.tuple_iff.2 ⟨_, rfl, VRels.cons ha (VRels.cons (VRel.bool_iff.2 rfl) (VRels.nil_iff.2 rfl))⟩
  have bad : ∀ {a b : Option TypeId} {m : String}, (((P.info? t).bind (·.zero)).map fun v => AV.tuple [ofConst v, .bool false]) = some v →
      ∃ v', (do if true then pure (.tuple #[← zeroValue t, .bool false]) else runtimePanic (.typeAssertion a b t m) : Sem Value).run P w = .ok v' w ∧ VRel ρ v v' := by
    intro a b m hz
    obtain ⟨z, hz1, rfl⟩ := Option.map_eq_some_iff.1 hz
    obtain ⟨i, hi, hz2⟩ := Option.bind_eq_some_iff.1 hz1
    exact ⟨.tuple #[z, .bool false], by simp [run_zeroValue' hi hz2], pair (ofConst_rel ρ z)⟩
  unfold aassert at h
  split at h
  · rename_i want hu
    split at h
    · simp only [VRel] at hx; subst hx
      split at h
      · rename_i hok
        subst hok
        obtain ⟨v', e, r⟩ := bad (a := none) (b := none) (m := "") h
        exact ⟨v', by simp only [Instr.typeAssert, Sem.run_bind, run_underlying' hu, Result.andThen_ok]; exact e, r⟩
      · cases h
    · rename_i dt y
      obtain ⟨y', rfl, hy⟩ := VRel.iface_iff.1 hx
      split at h
      · rename_i i hi
        split at h
        · rename_i hm
          cases h
          simp only [Instr.typeAssert, Sem.run_bind, run_underlying' hu, Result.andThen_ok, run_typeInfo' hi, hm]
          cases ok
          · exact ⟨_, rfl, VRel.iface_iff.2 ⟨_, rfl, hy⟩⟩
          · exact ⟨_, rfl, pair (VRel.iface_iff.2 ⟨_, rfl, hy⟩)⟩
        · rename_i m hm
          split at h
          · rename_i hok
            subst hok
            obtain ⟨v', e, r⟩ := bad (a := none) (b := some dt) (m := m) h
            exact ⟨v', by simp only [Instr.typeAssert, Sem.run_bind, run_underlying' hu, Result.andThen_ok, run_typeInfo' hi, hm]; exact e, r⟩
          · cases h
      · cases h
    · cases h
  · rename_i d hd hu
    split at h
    · simp only [VRel] at hx; subst hx
      split at h
      · rename_i hok
        subst hok
        obtain ⟨v', e, r⟩ := bad (a := some xt) (b := none) (m := "") h
        refine ⟨v', ?_, r⟩
        simp only [Instr.typeAssert, Sem.run_bind, run_underlying' hu, Result.andThen_ok]
        cases d <;> first | exact e | exact absurd rfl (hd _)
      · cases h
    · rename_i dt y
      obtain ⟨y', rfl, hy⟩ := VRel.iface_iff.1 hx
      split at h
      · rename_i hdt
        subst hdt
        cases h
        cases ok
        · refine ⟨y', ?_, hy⟩
          simp only [Instr.typeAssert, Sem.run_bind, run_underlying' hu, Result.andThen_ok]
          cases d <;> first | (simp; done) | exact absurd rfl (hd _)
        · refine ⟨.tuple #[y', .bool true], ?_, pair hy⟩
          simp only [Instr.typeAssert, Sem.run_bind, run_underlying' hu, Result.andThen_ok]
          cases d <;> first | (simp; done) | exact absurd rfl (hd _)
      · rename_i hdt
        split at h
        · rename_i hok
          subst hok
          obtain ⟨v', e, r⟩ := bad (a := some xt) (b := some dt) (m := "") h
          refine ⟨v', ?_, r⟩
          simp only [Instr.typeAssert, Sem.run_bind, run_underlying' hu, Result.andThen_ok]
          cases d <;> first | exact absurd rfl (hd _) | (simp only [hdt, if_false]; exact e)
        · cases h
    · cases h
  · cases h
end Go.Ab
end
section
/-
  Operations, one by one: values that are built, new rows.
-/
namespace Go.Ab
open Go.RowKit

theorem foldl_sets (off : Nat) : ∀ (l : List Value) (k : Nat) (cs : Array Value), off + k + l.length ≤ cs.size →
    ((l.zipIdx k).foldl (fun cs (c : Value × Nat) => cs.setIfInBounds (off + c.2) c.1) cs).toList = cs.toList.take (off + k) ++ l ++ cs.toList.drop (off + k + l.length)
  | [], k, cs, _ => by simp
  | v :: l, k, cs, h => by
    simp only [List.length_cons] at h
    rw [List.zipIdx_cons, List.foldl_cons]
    have ih := foldl_sets off l (k + 1) (cs.setIfInBounds (off + k) v) (by simp; omega)
    simp only at ih ⊢
    rw [ih]
    have hs : (cs.setIfInBounds (off + k) v).toList = cs.toList.take (off + k) ++ v :: cs.toList.drop (off + k + 1) := by
      rw [Array.toList_setIfInBounds, List.set_eq_take_append_cons_drop, if_pos (by simp; omega)]
    rw [hs]
    have hl : (cs.toList.take (off + k)).length = off + k := by simp; omega
    rw [show off + (k + 1) = (cs.toList.take (off + k)).length + 1 from by omega, List.take_length_add_append]
    rw [show (cs.toList.take (off + k)).length + 1 + l.length = (cs.toList.take (off + k)).length + (1 + l.length) from by omega, List.drop_length_add_append]
    simp only [List.take_succ_cons, List.take_zero, List.append_assoc, List.cons_append, List.nil_append, List.length_cons]
    rw [Nat.add_comm 1 l.length, List.drop_succ_cons, List.drop_drop]
    congr 4
    omega
theorem sets_splice (off : Nat) (vs : Array Value) (cs : Array Value) (h : off + vs.size ≤ cs.size) :
    (vs.zipIdx.foldl (fun cs (c, j) => cs.setIfInBounds (off + j) c) cs).toList = cs.toList.take off ++ vs.toList ++ cs.toList.drop (off + vs.size) := by
  rw [← Array.foldl_toList, Array.toList_zipIdx]
  have := foldl_sets off vs.toList 0 cs (by simpa using h)
  simpa using this

/-- Parts, each with its place. -/
def PRels (ρ : RMap) : List (Nat × AV) → List (Nat × Value) → Prop
  | [], ps => ps = []
  | (i, x) :: r, ps => ∃ v ps', ps = (i, v) :: ps' ∧ VRel ρ x v ∧ PRels ρ r ps'
theorem PRels.map {ρ : RMap} (ps : List (Nat × Operand)) (e : Operand → AV) (f : Operand → Value) (h : ∀ x, VRel ρ (e x) (f x)) : PRels ρ (ps.map fun p => (p.1, e p.2)) (ps.map fun p => (p.1, f p.2)) := by
  induction ps with
  | nil => simp [PRels]
  | cons p ps ih => exact ⟨_, _, rfl, h _, ih⟩
theorem fill_rel {ρ : RMap} {place : Nat → Option (Nat × Nat)} : ∀ {ps : List (Nat × AV)} {qs : List (Nat × Value)} {cs out : List AV} {ds : Array Value}, afill place cs ps = some out → PRels ρ ps qs → VRels ρ cs ds.toList →
    ∃ res, Instr.fill place ds qs = some res ∧ VRels ρ out res.toList
  | [], qs, cs, out, ds, h, hp, hc => by
    simp [afill] at h; subst h
    simp [PRels] at hp; subst hp
    exact ⟨ds, rfl, hc⟩
  | (i, x) :: ps, qs, cs, out, ds, h, hp, hc => by
    obtain ⟨v, qs', rfl, hv, hp'⟩ := hp
    unfold afill at h
    split at h
    · rename_i off size vs e1 e2
      split at h
      · rename_i hle
        have hr := acells_rel e2 hv
        have hl := hr.length
        have hcl := hc.length
        simp at hl hcl
        have hsp : VRels ρ (splice cs off vs) (v.cells.zipIdx.foldl (fun cs (c, j) => cs.setIfInBounds (off + j) c) ds).toList := by
          rw [sets_splice off v.cells ds (by omega)]
          unfold splice
          rw [show off + vs.length = off + v.cells.size from by omega]
          exact ((hc.take off).append hr).append (hc.drop _)
        obtain ⟨res, q1, q2⟩ := fill_rel h hp' hsp
        refine ⟨res, ?_, q2⟩
        unfold Instr.fill
        rw [e1]
        simp only
        rw [if_neg (by simp; omega)]
        exact q1
      · cases h
    · cases h

theorem run_places {P : Program} {w : World} : ∀ (fs : List Field) (ps : List (Nat × Nat)), (fs.mapM fun f => (tsz P f.type).map fun s => (f.offset, s)) = some ps →
    (fs.mapM fun f => do pure (f.offset, ← sizeOf f.type) : Sem (List (Nat × Nat))).run P w = .ok ps w
  | [], ps, h => by simp at h; subst h; simp
  | f :: fs, ps, h => by
    simp only [List.mapM_cons, Option.bind_eq_bind, Option.pure_def] at h
    obtain ⟨a, h1, h⟩ := Option.bind_eq_some_iff.1 h
    obtain ⟨l, h2, h⟩ := Option.bind_eq_some_iff.1 h
    cases h
    obtain ⟨s, hs, rfl⟩ := Option.map_eq_some_iff.1 h1
    have ih := run_places (P := P) (w := w) fs l h2
    simp only [List.mapM_cons, Sem.run_bind, run_tsz hs, Result.andThen_ok, Sem.run_pure, ih]

theorem run_abuild {P : Program} {w : World} {ρ : RMap} {t : TypeId} {ps : List (Nat × AV)} {qs : Array (Nat × Value)} {v : AV} (h : abuild P t ps = some v) (hp : PRels ρ ps qs.toList) :
    ∃ v', (Instr.build t qs).run P w = .ok v' w ∧ VRel ρ v v' := by
  unfold abuild at h
  obtain ⟨z, hz, h⟩ := Option.bind_eq_some_iff.1 h
  obtain ⟨i, zv, hi, hzv, rfl⟩ := tzero_some hz
  have hzr : VRels ρ (zv.cells.toList.map scal) zv.cells.toList := scals_rel ρ _
  split at h
  · rename_i fs hu
    obtain ⟨pl, hpl, h⟩ := Option.bind_eq_some_iff.1 h
    obtain ⟨out, ho, rfl⟩ := Option.map_eq_some_iff.1 h
    obtain ⟨res, e, r⟩ := fill_rel (ρ := ρ) ho hp hzr
    refine ⟨.agg res, ?_, VRel.agg_iff.2 ⟨_, rfl, r⟩⟩
    simp only [Instr.build, Sem.run_bind, run_zeroValue' hi hzv, run_underlying' hu, Result.andThen_ok]
    rw [Array.mapM_eq_mapM_toList, Sem.run_map, run_places _ _ hpl]
    simp only [Result.andThen_ok, List.getElem?_toArray, e, Sem.run_pure]
  · rename_i n el hu
    obtain ⟨sz, hs, h⟩ := Option.bind_eq_some_iff.1 h
    obtain ⟨out, ho, rfl⟩ := Option.map_eq_some_iff.1 h
    obtain ⟨res, e, r⟩ := fill_rel (ρ := ρ) ho hp hzr
    refine ⟨.agg res, ?_, VRel.agg_iff.2 ⟨_, rfl, r⟩⟩
    simp only [Instr.build, Sem.run_bind, run_zeroValue' hi hzv, run_underlying' hu, run_tsz hs, Result.andThen_ok, e, Sem.run_pure]
  · cases h

theorem rep_cells (z : Array Value) (n : Nat) (hz : 0 < z.size) : ((Array.range (n * z.size)).map (fun i => z[i % z.size]!)).toList = List.flatten (List.replicate n z.toList) := by
  rw [Array.toList_map, Array.toList_range]
  induction n with
  | zero => simp
  | succ n ih =>
    rw [Nat.succ_mul, List.range_add, List.map_append, ih, List.replicate_succ', List.flatten_append]
    congr 1
    simp only [List.map_map, List.flatten_cons, List.flatten_nil, List.append_nil]
    apply List.ext_getElem
    · simp
    · intro j h1 h2
      have hj : j < z.size := by simpa using h2
      simp [Nat.mod_eq_of_lt hj, hj]

/-- A new row, as a block of its own. -/
theorem run_newRow {P : Program} {w : World} {B : Nat} {ρ : RMap} {h : AHeap} (hr : Rep B ρ h w) (hn : ρ h.length = none) (e : TypeId) (cs : List AV) (arr : Array Value) (hv : VRels ρ cs arr.toList) :
    (newRow e arr).run P w = .ok ⟨w.heap.size, 0, none⟩ (w.alloc (.cells arr e)) ∧
    Rep B (rset ρ h.length ⟨w.heap.size, 0, arr.size⟩) (hnew h cs) (w.alloc (.cells arr e)) ∧ Evo B ρ h w (rset ρ h.length ⟨w.heap.size, 0, arr.size⟩) (hnew h cs) (w.alloc (.cells arr e)) := by
  have hl := hv.length
  simp at hl
  refine ⟨by simp [newRow], hr.alloc hn cs arr e (by omega) fun j x hx => ?_⟩
  obtain ⟨v, e, r⟩ := hv.get j x hx
  exact ⟨v, by simpa using e, r⟩

theorem run_abuildSlice_arr {P : Program} {w : World} {ρ : RMap} {h h' : AHeap} {t el : TypeId} {len : Nat} {ps : List (Nat × AV)} {qs : Array (Nat × Value)} {v : AV}
    (he : telem P t = some el) (hb : abuildSlice P el len ps h = some (v, h')) (hp : PRels ρ ps qs.toList) :
    ∃ (cs : List AV) (arr : Array Value) (v' : Value), h' = hnew h cs ∧ (Instr.buildSlice t len qs).run P w = .ok v' (w.alloc (.cells arr el)) ∧ VRels ρ cs arr.toList ∧
      ∀ ρ' : RMap, ρ' h.length = some ⟨w.heap.size, 0, arr.size⟩ → VRel ρ' v v' := by
  unfold telem at he
  obtain ⟨d, hu, he⟩ := Option.bind_eq_some_iff.1 he
  split at he
  · cases he
    unfold abuildSlice at hb
    obtain ⟨sz, hs, hb1⟩ := Option.bind_eq_some_iff.1 hb
    obtain ⟨z, hz, hb2⟩ := Option.bind_eq_some_iff.1 hb1
    obtain ⟨i, zv, hi, hzv, rfl⟩ := tzero_some hz
    clear hb hb1 hz
    split at hb2
    · rename_i hc
      obtain ⟨h1, h2, h3⟩ := hc
      obtain ⟨out, ho, hb3⟩ := Option.map_eq_some_iff.1 hb2
      cases hb3
      simp at h1
      subst h1
      have hzr : VRels ρ (List.flatten (List.replicate len (zv.cells.toList.map scal))) ((Array.range (len * zv.cells.size)).map (fun i => zv.cells[i % zv.cells.size]!)).toList := by
        rw [rep_cells _ _ h2]
        exact (scals_rel ρ _).flatrep len
      obtain ⟨res, e, r⟩ := fill_rel (ρ := ρ) ho hp hzr
      have e1 : (newRow el res).run P w = .ok ⟨w.heap.size, 0, none⟩ (w.alloc (.cells res el)) := by simp [newRow]
      refine ⟨out, res, .slice (some ⟨w.heap.size, 0, none⟩) len len, rfl, ?_, r, fun ρ' hρ => VRel.sl_iff.2 ⟨⟨w.heap.size, 0, res.size⟩, ⟨w.heap.size, 0, none⟩, len, hρ, rfl, Nat.le_refl _, h2, fun _ => ⟨rfl, ?_⟩⟩⟩
      · simp only [Instr.buildSlice, Sem.run_bind, run_underlying' hu, run_tsz hs, Result.andThen_ok, Sem.run_ite]
        rw [if_neg (by omega)]
        by_cases hl0 : len * zv.cells.size = 0
        · rw [hl0] at e ⊢
          have hz : Array.range 0 = #[] := rfl
          rw [hz] at e ⊢
          simp only [Array.map_empty] at e
          simp only [if_true, Sem.run_pure, Result.andThen_ok, Array.map_empty, e, Sem.run_bind, e1]
        · simp only [hl0, if_false, Sem.run_bind, run_zeroValue' hi hzv, Result.andThen_ok, Sem.run_pure, e, e1]
      · have hl := r.length
        have : out.length = len * zv.cells.size := by
          have key : ∀ (ps : List (Nat × AV)) (cs out : List AV), afill (fun i => some (i * zv.cells.size, zv.cells.size)) cs ps = some out → out.length = cs.length := by
            intro ps
            induction ps with
            | nil => intro cs out h; simp [afill] at h; rw [h]
            | cons p ps ih =>
              intro cs out h
              obtain ⟨i, x⟩ := p
              unfold afill at h
              split at h
              · rename_i off size vs _ _
                split at h
                · rw [ih _ _ h]; simp [splice]; omega
                · cases h
              · cases h
          rw [key _ _ _ ho]
          simp [List.length_flatten]
        simp at hl
        simp only; omega
    · cases hb2
  · cases he

theorem run_abuildSlice {P : Program} {w : World} {B : Nat} {ρ : RMap} {h h' : AHeap} {t el : TypeId} {len : Nat} {ps : List (Nat × AV)} {qs : Array (Nat × Value)} {v : AV} (hr : Rep B ρ h w) (hn : ρ h.length = none)
    (he : telem P t = some el) (hb : abuildSlice P el len ps h = some (v, h')) (hp : PRels ρ ps qs.toList) :
    ∃ v' w' ρ', (Instr.buildSlice t len qs).run P w = .ok v' w' ∧ VRel ρ' v v' ∧ Rep B ρ' h' w' ∧ Evo B ρ h w ρ' h' w' := by
  obtain ⟨cs, arr, v', rfl, e, r, q⟩ := run_abuildSlice_arr (w := w) he hb hp
  obtain ⟨_, R, E⟩ := run_newRow (P := P) hr hn el cs arr r
  exact ⟨v', _, _, e, q _ (by simp [rset]), R, E⟩

theorem run_amake_arr {P : Program} {w : World} {ρ : RMap} {h h' : AHeap} {t el : TypeId} {l c v : AV} {l' c' : Value}
    (he : telem P t = some el) (hb : amake P el l c h = some (v, h')) (hl : VRel ρ l l') (hc : VRel ρ c c') :
    ∃ (cs : List AV) (arr : Array Value) (v' : Value), h' = hnew h cs ∧ (Instr.makeSlice t l' c').run P w = .ok v' (w.alloc (.cells arr el)) ∧ VRels ρ cs arr.toList ∧
      ∀ ρ' : RMap, ρ' h.length = some ⟨w.heap.size, 0, arr.size⟩ → VRel ρ' v v' := by
  unfold telem at he
  obtain ⟨d, hu, he⟩ := Option.bind_eq_some_iff.1 he
  split at he
  · cases he
    unfold amake at hb
    obtain ⟨sz, hs, hb1⟩ := Option.bind_eq_some_iff.1 hb
    obtain ⟨by', hby, hb2⟩ := Option.bind_eq_some_iff.1 hb1
    obtain ⟨z, hz, hb3⟩ := Option.bind_eq_some_iff.1 hb2
    obtain ⟨i, zv, hi, hzv, rfl⟩ := tzero_some hz
    clear hb hb1 hb2 hz
    split at hb3
    · rename_i k1 l k2 c
      rw [VRel.int_iff] at hl hc; subst hl; subst hc
      split at hb3
      · rename_i hcond
        obtain ⟨q1, q2, q3, q4, q5, q6⟩ := hcond
        cases hb3
        simp at q5
        subst q5
        have hbi : by' = i.bytes := by
          unfold tby at hby; rw [hi] at hby; simpa using hby.symm
        subst hbi
        have hzr : VRels ρ (List.flatten (List.replicate c.toNat (zv.cells.toList.map scal))) ((Array.range (c.toNat * zv.cells.size)).map (fun i => zv.cells[i % zv.cells.size]!)).toList := by
          rw [rep_cells _ _ q6]
          exact (scals_rel ρ _).flatrep _
        have e1 : (newRow el ((Array.range (c.toNat * zv.cells.size)).map (fun i => zv.cells[i % zv.cells.size]!))).run P w = .ok ⟨w.heap.size, 0, none⟩ (w.alloc (.cells ((Array.range (c.toNat * zv.cells.size)).map (fun i => zv.cells[i % zv.cells.size]!)) el)) := by simp [newRow]
        have wl : IntKind.i64.wrap l = l := by unfold IntKind.wrap; simp [IntKind.bits, IntKind.signed]; omega
        have wc : IntKind.i64.wrap c = c := by unfold IntKind.wrap; simp [IntKind.bits, IntKind.signed]; omega
        refine ⟨_, _, .slice (some ⟨w.heap.size, 0, none⟩) l.toNat c.toNat, rfl, ?_, hzr, fun ρ' hρ => VRel.sl_iff.2 ⟨_, ⟨w.heap.size, 0, none⟩, c.toNat, hρ, rfl, by omega, q6, fun _ => ⟨rfl, by simp⟩⟩⟩
        simp only [Instr.makeSlice, Sem.run_bind, run_underlying' hu, Result.andThen_ok, asInt, asIntOf, Sem.run_pure, run_typeInfo' hi, wl, wc, Sem.run_ite]
        have hbc : (i.bytes : Int) * c ≤ 2 ^ 48 := by rw [Int.mul_comm]; omega
        rw [if_neg (by simp; omega)]
        simp only [Sem.run_bind, run_askRoom, run_tsz hs, Result.andThen_ok]
        by_cases h0 : c.toNat * zv.cells.size = 0
        · rw [h0] at e1 ⊢
          have hz : Array.range 0 = #[] := rfl
          rw [hz] at e1 ⊢
          simp only [Array.map_empty] at e1 ⊢
          simp only [if_true, Sem.run_pure, Result.andThen_ok, Array.map_empty, e1]
        · simp only [h0, if_false, Sem.run_bind, run_zeroValue' hi hzv, Result.andThen_ok, Sem.run_pure, e1]
      · cases hb3
    · cases hb3
  · cases he

theorem run_amake {P : Program} {w : World} {B : Nat} {ρ : RMap} {h h' : AHeap} {t el : TypeId} {l c v : AV} {l' c' : Value} (hr : Rep B ρ h w) (hn : ρ h.length = none)
    (he : telem P t = some el) (hb : amake P el l c h = some (v, h')) (hl : VRel ρ l l') (hc : VRel ρ c c') :
    ∃ v' w' ρ', (Instr.makeSlice t l' c').run P w = .ok v' w' ∧ VRel ρ' v v' ∧ Rep B ρ' h' w' ∧ Evo B ρ h w ρ' h' w' := by
  obtain ⟨cs, arr, v', rfl, e, r, q⟩ := run_amake_arr (w := w) he hb hl hc
  obtain ⟨_, R, E⟩ := run_newRow (P := P) hr hn el cs arr r
  exact ⟨v', _, _, e, q _ (by simp [rset]), R, E⟩
end Go.Ab
end
section
/-
  append and copy.
-/
namespace Go.Ab
open Go.RowKit

theorem aapp_some {sz by' m : Nat} {s v : AV} {xs : List AV} {h h' : AHeap} (hb : aapp sz by' s m xs h = some (v, h')) :
    (m = 0 ∧ v = s ∧ h' = h ∧ (s = .nilsl ∨ ∃ b o n sz', s = .sl b o n sz')) ∨
    (0 < m ∧ s = .nilsl ∧ m * by' ≤ 140737488355328 ∧ xs.all isCell = true ∧ v = .sl h.length 0 m sz ∧ h' = hnew h xs) ∨
    (0 < m ∧ ∃ b o n cs, s = .sl b o n sz ∧ hget h b = some (.cells false cs) ∧ o + n * sz ≤ cs.length ∧ (n + m) * by' ≤ 140737488355328 ∧ xs.all isCell = true ∧
      v = .sl h.length 0 (n + m) sz ∧ h' = hnew (h.set b none) ((cs.drop o).take (n * sz) ++ xs)) := by
  unfold aapp at hb
  by_cases hm : m = 0
  · rw [if_pos hm] at hb
    split at hb
    · cases hb; exact .inl ⟨hm, rfl, rfl, .inl rfl⟩
    · cases hb; exact .inl ⟨hm, rfl, rfl, .inr ⟨_, _, _, _, rfl⟩⟩
    · cases hb
  · rw [if_neg hm] at hb
    split at hb
    · split at hb
      · rename_i hc
        cases hb
        exact .inr (.inl ⟨by omega, rfl, hc.1, hc.2, rfl, rfl⟩)
      · cases hb
    · split at hb
      · rename_i hsz
        subst hsz
        split at hb
        · rename_i cs hg
          split at hb
          · rename_i hc
            cases hb
            exact .inr (.inr ⟨by omega, _, _, _, cs, rfl, hg, hc.1, hc.2.1, hc.2.2, rfl, rfl⟩)
          · cases hb
        · cases hb
      · cases hb
    · cases hb

theorem run_append_fits {P : Program} {w : World} {t u ty el : TypeId} {sz n m cap : Nat} {x' : Value} {a : Option Addr} {vs : List Value} (hu : P.underlying t = some (.slice el)) (hx : ∃ d, P.underlying u = some d ∧ ∀ k, d ≠ .int k)
    (hs : tsz P el = some sz) (h1 : (Builtin.lenOf x').run P w = .ok m w) (h2 : (Builtin.firstCells sz m x').run P w = .ok vs.toArray w) (hc : n + m ≤ cap) :
    (Builtin.append_ #[t, u] ty #[.slice a n cap, x']).run P w = (match a with
      | some a => (storeCells (a.add (n * sz)) vs).run P w
      | none => .ok () w).andThen fun _ w => .ok (.slice a (n + m) cap) w := by
  obtain ⟨d, hd, hk⟩ := hx
  have hz0 : (match d with | .int _ => true | _ => false) = false := by
    cases d <;> first | rfl | exact absurd rfl (hk _)
  simp only [Builtin.append_, List.getElem?_toArray, List.getElem?_cons_zero, List.getElem?_cons_succ, Sem.run_bind, run_underlying' hu, run_underlying' hd, run_tsz hs, Result.andThen_ok, Sem.run_pure, Bool.false_eq_true, if_false, h1,
    Sem.run_ite, hc, if_true, Bool.not_false, h2]
  cases a <;> simp

theorem run_append_new {P : Program} {w : World} {t u ty el : TypeId} {sz n m cap : Nat} {x' : Value} {a : Option Addr} {vs os : List Value} {i : TypeInfo} {z : Value} (hu : P.underlying t = some (.slice el)) (hx : ∃ d, P.underlying u = some d ∧ ∀ k, d ≠ .int k)
    (hs : tsz P el = some sz) (hi : P.info? el = some i) (hz : i.zero = some z) (hb0 : i.bytes ≠ 0) (hbd : (n + m) * i.bytes ≤ 140737488355328)
    (h1 : (Builtin.lenOf x').run P w = .ok m w) (h2 : (Builtin.firstCells sz m x').run P w.drew = .ok vs.toArray w.drew) (h3 : (Builtin.firstCells sz n (.slice a n cap)).run P w.drew = .ok os.toArray w.drew) (hc : cap < n + m) :
    ∃ nc, n + m ≤ nc ∧ (Builtin.append_ #[t, u] ty #[.slice a n cap, x']).run P w =
      .ok (.slice (some ⟨w.heap.size, 0, none⟩) (n + m) nc) (w.drew.alloc (.cells (os.toArray ++ vs.toArray ++ Builtin.zeroCells z.cells (nc - (n + m))) el)) := by
  obtain ⟨d, hd, hk⟩ := hx
  have hz0 : (match d with | .int _ => true | _ => false) = false := by
    cases d <;> first | rfl | exact absurd rfl (hk _)
  refine ⟨Question.cut (.appendCap (n + m) cap el) (w.tape w.drawn (.appendCap (n + m) cap el)), ?_, ?_⟩
  · simp [Question.cut]
  · have hfit := growslice_fits hc hbd
    simp only [Builtin.append_, List.getElem?_toArray, List.getElem?_cons_zero, List.getElem?_cons_succ, Sem.run_bind, run_underlying' hu, run_underlying' hd, run_tsz hs, Result.andThen_ok, Sem.run_pure, Bool.false_eq_true, if_false, h1,
      Sem.run_ite, run_typeInfo' hi, hb0, or_self, and_false]
    rw [if_neg (by omega), if_neg (by omega)]
    simp only [run_choose, Question.forced, Bool.false_eq_true, if_false, Result.andThen_ok, run_askRoom, Sem.run_bind, World.drew_eq, h3, h2, Bool.not_false, if_true, run_zeroValue' hi hz, newRow, run_newObj, Sem.run_pure, World.alloc_eq, World.size_drew]

theorem run_aapp {P : Program} {w : World} {B : Nat} {ρ : RMap} {h h' : AHeap} {t u ty el : TypeId} {sz by' m : Nat} {s x v : AV} {xs z : List AV} {s' x' : Value} (hr : Rep B ρ h w) (hnm : 0 < m → ρ h.length = none)
    (he : telem P t = some el) (hs : tsz P el = some sz) (hby : tby P el = some by') (hz : tzero P el = some z) (hx : ∃ d, P.underlying u = some d ∧ ∀ k, d ≠ .int k) (h0 : ¬ (sz = 0 ∨ by' = 0 ∨ z.length ≠ sz))
    (hm : alenOf x = some m) (hxs : asrc sz x h = some xs) (hb : aapp sz by' s m xs h = some (v, h')) (rs : VRel ρ s s') (rx : VRel ρ x x') :
    ∃ v' w' ρ', (Builtin.append_ #[t, u] ty #[s', x']).run P w = .ok v' w' ∧ VRel ρ' v v' ∧ Rep B ρ' h' w' ∧ Evo B ρ h w ρ' h' w' := by
  obtain ⟨i, zv, hi, hzv, hzl⟩ := tzero_some hz
  have hzs : zv.cells.size = sz := by
    have : z.length = sz := by omega
    rw [hzl] at this; simpa using this
  have hbi : by' = i.bytes := by
    unfold tby at hby; rw [hi] at hby; simpa using hby.symm
  subst hbi
  have hsz0 : 0 < sz := by omega
  have hu : P.underlying t = some (.slice el) := by
    unfold telem at he
    obtain ⟨d, hu, he⟩ := Option.bind_eq_some_iff.1 he
    split at he
    · cases he; exact hu
    · cases he
  obtain ⟨hlen, hxl, hfirst⟩ := run_asrc (P := P) hr hxs hm hsz0 rx
  obtain ⟨vs, hf, hv⟩ := hfirst m (Nat.le_refl _)
  rw [List.take_of_length_le (by omega)] at hv
  obtain ⟨_, _, hfirst'⟩ := run_asrc (P := P) (hr.drew) hxs hm hsz0 rx
  obtain ⟨vs', hf', hv'⟩ := hfirst' m (Nat.le_refl _)
  rw [List.take_of_length_le (by omega)] at hv'
  rcases aapp_some hb with ⟨rfl, rfl, rfl, hcase⟩ | ⟨hm0, rfl, hbd, hall, rfl, rfl⟩ | ⟨hm0, b, o, n, cs, rfl, hg, hle, hbd, hall, rfl, rfl⟩
  · have hvs : vs = [] := by
      have := hv.length
      rw [hxl] at this
      exact List.eq_nil_of_length_eq_zero (by omega)
    subst hvs
    rcases hcase with rfl | ⟨b, o, n, sz', rfl⟩
    · simp only [VRel] at rs; subst rs
      refine ⟨.slice none 0 0, w, ρ, ?_, by simp [VRel], hr, Evo.refl _ _ _ _⟩
      rw [run_append_fits hu hx hs hlen hf (by omega)]; rfl
    · obtain ⟨j, a, cap, hj, rfl, hcap, hpos, ha⟩ := VRel.sl_iff.1 rs
      refine ⟨.slice (some a) n cap, w, ρ, ?_, rs, hr, Evo.refl _ _ _ _⟩
      rw [run_append_fits hu hx hs hlen hf (by omega)]
      simp [storeCells]
  · have hn := hnm hm0
    simp only [VRel] at rs; subst rs
    obtain ⟨nc, hnc, e⟩ := run_append_new (ty := ty) (a := none) (n := 0) (cap := 0) (os := []) hu hx hs hi hzv (by omega) (by rw [Nat.zero_add]; exact hbd) hlen hf' (by simp [Builtin.firstCells]) (by omega)
    have hvl := hv'.length
    obtain ⟨R, E⟩ := hr.drew.alloc hn xs (([] : List Value).toArray ++ vs'.toArray ++ Builtin.zeroCells zv.cells (nc - (0 + m))) el (by simp; omega) (by
      intro j y hy
      obtain ⟨q, e, r⟩ := hv'.get j y hy
      have hj := (List.getElem?_eq_some_iff.1 e).1
      refine ⟨q, ?_, r⟩
      rw [Array.getElem?_append_left (by simp; omega)]
      simpa using e)
    refine ⟨_, _, _, e, VRel.sl_iff.2 ⟨_, _, nc, by simp [rset]; rfl, by rw [Nat.zero_add], by omega, hsz0, fun _ => ⟨by simp, ?_⟩⟩, R, E.drew⟩
    have h1 : (Builtin.zeroCells zv.cells (nc - (0 + m))).size = (nc - (0 + m)) * sz := by rw [size_zeroCells, hzs]
    have h2 : m * sz + (nc - (0 + m)) * sz = nc * sz := by rw [← Nat.add_mul]; congr 1; omega
    simp only [Nat.zero_add] at h1 h2 ⊢
    simp only [Array.size_append, h1, List.size_toArray, List.length_nil]
    omega
  · have hn := hnm hm0
    obtain ⟨j, a, cap, hj, rfl, hcap, hpos, ha⟩ := VRel.sl_iff.1 rs
    have hown := (hr.rw' b j cs hj hg).2
    have hbd' := hr.len b j false cs hj hg
    have hget := hr.get b j false cs hj hg
    by_cases hc : n + m ≤ cap
    · -- there is room
      obtain ⟨rfl, hext⟩ := ha (by omega)
      have hmn : (n + m) * sz ≤ cap * sz := Nat.mul_le_mul_right _ hc
      have hvl := hv.length
      have hsum : (n + m) * sz = n * sz + m * sz := Nat.add_mul _ _ _
      have hone : ∀ u ∈ vs, u.oneCell' = true := by
        intro u hu
        obtain ⟨q, hq, rfl⟩ := List.getElem_of_mem hu
        obtain ⟨u', e, r⟩ := hv.get q xs[q] (by simp)
        have : u' = vs[q] := by simp [hq] at e; exact e.symm
        subst this
        exact oneCell_of_isCell (List.all_eq_true.1 hall _ (List.getElem_mem (by omega))) r
      obtain ⟨w', r, s, o1, o2, o3, hk, hfr, hgt, hot⟩ := run_storeCells (P := P) ⟨j.blk, j.off + o + n * sz, none⟩ rfl vs 0 w hone (by
        simp only
        intro q hq
        obtain ⟨u, e, f⟩ := hown (o + n * sz + q) (by omega)
        rw [show j.off + (o + n * sz + q) = j.off + o + n * sz + (0 + q) from by omega] at e f
        exact ⟨u, e, f⟩)
      simp only at hk hgt hot
      have hB : Below B w w' := ⟨o1, o2, o3, Nat.le_of_eq s.symm, fun k hk' => hk k (by have := (hr.rw' b j cs hj hg).1; omega)⟩
      have hold : ∀ q, ¬ (o + n * sz ≤ q ∧ q < o + n * sz + vs.length) → w'.cell? ⟨j.blk, j.off + q, none⟩ = w.cell? ⟨j.blk, j.off + q, none⟩ := by
        intro q hq
        exact hot _ _ (by rintro ⟨_, q1, q2⟩; omega)
      have hnw : ∀ q (u : Value), vs[q]? = some u → w'.cell? ⟨j.blk, j.off + (o + n * sz + q), none⟩ = some u := by
        intro q u hu
        have := hgt q u hu
        rw [show j.off + (o + n * sz + q) = j.off + o + n * sz + (0 + q) from by omega]
        exact this
      obtain ⟨R, E⟩ := hr.move (w' := w') (o := o) (cs' := (cs.drop o).take (n * sz) ++ xs) hn hj hg hB s (by omega)
        (by intro bi off hne; exact hot bi off (by rintro ⟨q0, q1, q2⟩; exact hne ⟨q0, by omega, by omega⟩)) hfr
        (by
          intro q hq
          by_cases hin : o + n * sz ≤ q ∧ q < o + n * sz + vs.length
          · have hq' : q - (o + n * sz) < vs.length := by omega
            refine ⟨vs[q - (o + n * sz)], ?_⟩
            have := hnw (q - (o + n * sz)) vs[q - (o + n * sz)] (by simp [hq'])
            rwa [show o + n * sz + (q - (o + n * sz)) = q from by omega] at this
          · obtain ⟨u, e, _⟩ := hown q hq
            exact ⟨u, by rw [hold q hin]; exact e⟩)
        (by simp; omega)
        (by
          intro q y hy
          have hpl : ((cs.drop o).take (n * sz)).length = n * sz := by simp; omega
          by_cases hlo : q < n * sz
          · rw [List.getElem?_append_left (by omega), List.getElem?_take_of_lt hlo, List.getElem?_drop] at hy
            obtain ⟨u, e, r⟩ := hget (o + q) y hy
            exact ⟨u, by rw [show j.off + o + q = j.off + (o + q) from by omega, hold (o + q) (by omega)]; exact e, r⟩
          · rw [List.getElem?_append_right (by omega), hpl] at hy
            obtain ⟨u, e, r⟩ := hv.get _ y hy
            refine ⟨u, ?_, r⟩
            have := hnw (q - n * sz) u e
            rwa [show j.off + (o + n * sz + (q - n * sz)) = j.off + o + q from by omega] at this)
      refine ⟨.slice (some ⟨j.blk, j.off + o, none⟩) (n + m) cap, w', _, ?_, VRel.sl_iff.2 ⟨⟨j.blk, j.off + o, j.ext - o⟩, _, cap, by simp [rset], rfl, hc, hsz0, fun _ => ⟨rfl, by simp only; omega⟩⟩, R, E⟩
      rw [run_append_fits hu hx hs hlen hf hc]
      show ((storeCells (Addr.add ⟨j.blk, j.off + o, none⟩ (n * sz)) vs).run P w).andThen _ = _
      rw [show Addr.add ⟨j.blk, j.off + o, none⟩ (n * sz) = ⟨j.blk, j.off + o + n * sz, none⟩ from add_plain _ _ rfl]
      simp only [r, Result.andThen_ok]
    · -- a new row
      have hold : ∃ os : List Value, (Builtin.firstCells sz n (.slice (some a) n cap)).run P w.drew = .ok os.toArray w.drew ∧ VRels ρ ((cs.drop o).take (n * sz)) os := by
        obtain ⟨_, _, hh⟩ := run_asrc (P := P) (m := n) (cs := (cs.drop o).take (n * sz)) hr.drew (x := .sl b o n sz) (by simp [asrc, hg, hle]) rfl hsz0 rs
        obtain ⟨os, e, r⟩ := hh n (Nat.le_refl _)
        rw [List.take_of_length_le (by simp; omega)] at r
        exact ⟨os, e, r⟩
      obtain ⟨os, eo, ro⟩ := hold
      obtain ⟨nc, hnc, e⟩ := run_append_new (ty := ty) hu hx hs hi hzv (by omega) hbd hlen hf' eo (by omega)
      have hvl := hv'.length
      have hol := ro.length
      have hol' : os.length = n * sz := by rw [← hol]; simp; omega
      obtain ⟨K, KE⟩ := hr.kill b
      have hsum : (n + m) * sz = n * sz + m * sz := Nat.add_mul _ _ _
      obtain ⟨R, E⟩ := K.drew.alloc (by simpa using hn) ((cs.drop o).take (n * sz) ++ xs) (os.toArray ++ vs'.toArray ++ Builtin.zeroCells zv.cells (nc - (n + m))) el (by simp; omega) (by
        intro j y hy
        obtain ⟨q, e, r⟩ := (ro.append hv').get j y hy
        have hj := (List.getElem?_eq_some_iff.1 e).1
        refine ⟨q, ?_, r⟩
        rw [Array.getElem?_append_left (by simpa using hj)]
        simpa using e)
      refine ⟨_, _, _, e, VRel.sl_iff.2 ⟨_, _, nc, by simp [rset]; rfl, rfl, hnc, hsz0, fun _ => ⟨by simp, ?_⟩⟩, R, KE.trans E.drew⟩
      have h1 : (Builtin.zeroCells zv.cells (nc - (n + m))).size = (nc - (n + m)) * sz := by rw [size_zeroCells, hzs]
      have h2 : (n + m) * sz + (nc - (n + m)) * sz = nc * sz := by rw [← Nat.add_mul]; congr 1; omega
      simp only [Array.size_append, h1, List.size_toArray]
      omega
end Go.Ab
end
section
/-
  copy; and one operation of a region, whatever it is.
-/
namespace Go.Ab
open Go.RowKit

/-- Cells written into the middle of a block that is owned. -/
theorem Rep.splice {P : Program} {w : World} {B : Nat} {ρ : RMap} {h : AHeap} (hr : Rep B ρ h w) {b o : Nat} {i : BInfo} {cs vs : List AV} {us : List Value} (hi : ρ b = some i) (hg : hget h b = some (.cells false cs))
    (hle : o + vs.length ≤ cs.length) (hall : vs.all isCell = true) (hrel : VRels ρ vs us) :
    ∃ w', (storeCells ⟨i.blk, i.off + o, none⟩ us).run P w = .ok () w' ∧ Rep B ρ (hset h b (splice cs o vs)) w' ∧ Evo B ρ h w ρ (hset h b (splice cs o vs)) w' := by
  have hlen := hrel.length
  have hbd := hr.len b i false cs hi hg
  have hown := (hr.rw' b i cs hi hg).2
  have hone : ∀ u ∈ us, u.oneCell' = true := by
    intro u hu
    obtain ⟨j, hj, rfl⟩ := List.getElem_of_mem hu
    have hj' : j < vs.length := by omega
    obtain ⟨u', e, r⟩ := hrel.get j vs[j] (by simp [hj'])
    have : u' = us[j] := by simp [hj] at e; exact e.symm
    subst this
    exact oneCell_of_isCell (List.all_eq_true.1 hall _ (List.getElem_mem hj')) r
  obtain ⟨w', r, s, o1, o2, o3, hk, hfr, hgt, hot⟩ := run_storeCells (P := P) ⟨i.blk, i.off + o, none⟩ rfl us 0 w hone (by
    intro j hj
    obtain ⟨u, e, f⟩ := hown (o + j) (by omega)
    exact ⟨u, by simpa [Nat.add_assoc] using e, by simpa [Nat.add_assoc] using f⟩)
  have hB : Below B w w' := ⟨o1, o2, o3, Nat.le_of_eq s.symm, fun k hk' => hk k (by have := (hr.rw' b i cs hi hg).1; simp; omega)⟩
  have hcell : ∀ bi off, ¬ (bi = i.blk ∧ i.off ≤ off ∧ off < i.off + i.ext) → w'.cell? ⟨bi, off, none⟩ = w.cell? ⟨bi, off, none⟩ := by
    intro bi off hne
    exact hot bi off (by rintro ⟨q0, q1, q2⟩; simp at q1 q2; exact hne ⟨q0, by omega, by omega⟩)
  have hnew : ∀ j (u : Value), us[j]? = some u → w'.cell? ⟨i.blk, i.off + (o + j), none⟩ = some u := by
    intro j u hu
    have := hgt j u hu
    simpa [Nat.add_assoc] using this
  have hold : ∀ q, ¬ (o ≤ q ∧ q < o + us.length) → w'.cell? ⟨i.blk, i.off + q, none⟩ = w.cell? ⟨i.blk, i.off + q, none⟩ := by
    intro q hq
    exact hot _ _ (by simp; omega)
  obtain ⟨R, E⟩ := hr.write (w' := w') (cs' := Ab.splice cs o vs) hi hg hB s hcell hfr (by
      intro j hj
      by_cases hin : o ≤ j ∧ j < o + us.length
      · have hj' : j - o < us.length := by omega
        refine ⟨us[j - o], ?_⟩
        have := hnew (j - o) us[j - o] (by simp [hj'])
        rwa [show o + (j - o) = j from by omega] at this
      · obtain ⟨u, e, _⟩ := hown j hj
        exact ⟨u, by rw [hold j hin]; exact e⟩)
    (by simp [Ab.splice]; omega)
    (by
      intro j y hy
      unfold Ab.splice at hy
      by_cases hlo : j < o
      · rw [List.append_assoc, List.getElem?_append_left (by simp; omega), List.getElem?_take_of_lt hlo] at hy
        obtain ⟨u, e, r⟩ := hr.get b i false cs hi hg j y hy
        exact ⟨u, by rw [hold j (by omega)]; exact e, r⟩
      · by_cases hmid : j < o + vs.length
        · rw [List.append_assoc, List.getElem?_append_right (by simp; omega), List.getElem?_append_left (by simp; omega)] at hy
          have hto : (List.take o cs).length = o := by simp; omega
          rw [hto] at hy
          obtain ⟨u, e, r⟩ := hrel.get _ y hy
          refine ⟨u, ?_, r⟩
          have := hnew (j - o) u e
          rwa [show o + (j - o) = j from by omega] at this
        · rw [List.getElem?_append_right (by simp; omega), List.getElem?_drop] at hy
          have hto : (List.take o cs ++ vs).length = o + vs.length := by simp; omega
          rw [hto, show o + vs.length + (j - (o + vs.length)) = j from by omega] at hy
          obtain ⟨u, e, r⟩ := hr.get b i false cs hi hg j y hy
          exact ⟨u, by rw [hold j (by omega)]; exact e, r⟩)
  exact ⟨w', r, R, E⟩

theorem run_acopy {P : Program} {w : World} {B : Nat} {ρ : RMap} {h h' : AHeap} {t u ty el : TypeId} {sz : Nat} {d x v : AV} {d' x' : Value} (hr : Rep B ρ h w)
    (he : telem P t = some el) (hs : tsz P el = some sz) (h0 : sz ≠ 0) (hb : acopy sz d x h = some (v, h')) (rd : VRel ρ d d') (rx : VRel ρ x x') :
    ∃ v' w', (Builtin.copy_ #[t, u] ty #[d', x']).run P w = .ok v' w' ∧ VRel ρ v v' ∧ Rep B ρ h' w' ∧ Evo B ρ h w ρ h' w' := by
  have hu : P.underlying t = some (.slice el) := by
    unfold telem at he
    obtain ⟨d, hu, he⟩ := Option.bind_eq_some_iff.1 he
    split at he
    · cases he; exact hu
    · cases he
  unfold acopy at hb
  obtain ⟨m, hm, hb1⟩ := Option.bind_eq_some_iff.1 hb
  obtain ⟨cs, hc, hb2⟩ := Option.bind_eq_some_iff.1 hb1
  clear hb hb1
  obtain ⟨hlen, hcl, hf⟩ := run_asrc (P := P) hr hc hm (by omega) rx
  split at hb2
  · cases hb2
    simp only [VRel] at rd; subst rd
    obtain ⟨vs, e, _⟩ := hf 0 (by omega)
    refine ⟨.int .i64 0, w, ?_, VRel.int_iff.2 rfl, hr, Evo.refl _ _ _ _⟩
    simp [Builtin.copy_, run_underlying' hu, hlen, run_tsz hs, e, goInt]
  · rename_i b o k sz'
    split at hb2
    · rename_i hsz
      subst hsz
      split at hb2
      · rename_i ds hg
        split at hb2
        · rename_i hcond
          cases hb2
          obtain ⟨i, a, cap, hi, rfl, hcap, hpos, ha⟩ := VRel.sl_iff.1 rd
          obtain ⟨vs, e, r⟩ := hf (min m k) (Nat.min_le_left _ _)
          have hmk : min m k * sz' ≤ k * sz' := Nat.mul_le_mul_right _ (Nat.min_le_right _ _)
          have hmm : min m k * sz' ≤ m * sz' := Nat.mul_le_mul_right _ (Nat.min_le_left _ _)
          have hall : (cs.take (min m k * sz')).all isCell = true := by
            rw [List.all_eq_true] at hcond ⊢
            exact fun x hx => hcond.2 x (List.mem_of_mem_take hx)
          have hst : ∃ w', (storeCells a vs).run P w = .ok () w' ∧ Rep B ρ (hset h b (splice ds o (cs.take (min m k * sz')))) w' ∧ Evo B ρ h w ρ (hset h b (splice ds o (cs.take (min m k * sz')))) w' := by
            rcases Nat.eq_zero_or_pos cap with hz | hz
            · have hk0 : k = 0 := by omega
              subst hk0
              have hv : vs = [] := by
                have := r.length
                simp at this
                exact List.eq_nil_of_length_eq_zero this.symm
              subst hv
              have e0 : cs.take (min m 0 * sz') = [] := by simp
              obtain ⟨w', e', R, E⟩ := hr.splice (P := P) (o := 0) (vs := []) (us := []) hi hg (by simp) (by simp) (VRels.nil_iff.2 rfl)
              have e1 : Ab.splice ds 0 [] = Ab.splice ds o [] := by simp [Ab.splice]
              rw [e1] at R E
              rw [e0]
              exact ⟨w', by simpa [storeCells] using e', R, E⟩
            · obtain ⟨rfl, _⟩ := ha hz
              exact hr.splice hi hg (by simp; omega) hall r
          obtain ⟨w', e', R, E⟩ := hst
          refine ⟨.int .i64 (min m k : Nat), w', ?_, VRel.int_iff.2 rfl, R, E⟩
          have hmin : Nat.min m k = min m k := rfl
          simp [Builtin.copy_, run_underlying' hu, hlen, run_tsz hs, hmin, e, goInt, e']
        · cases hb2
      · cases hb2
    · cases hb2
  · cases hb2
end Go.Ab
end
section
/-
  One operation of a region, whatever it is: what the evaluator says of it is what the machine does.
-/
namespace Go.Ab
open Go.RowKit

/-- A table of calls that is right: what it answers, the machine's call comes to. -/
def CallSim (P : Program) (B : Nat) (call : FuncId → List AV → AHeap → Res) : Prop :=
  ∀ (f : FuncId) (xs : List AV) (h : AHeap) (r : AV × AHeap), call f xs h = some r → ∀ (ρ : RMap) (w : World) (vs : List Value), Rep B ρ h w → VRels ρ xs vs →
    (∀ id, h.length ≤ id → id < r.2.length → ρ id = none) →
    Calls P f vs.toArray w fun e w' => ∃ (ρ' : RMap) (v : Value), e = .returned v ∧ VRel ρ' r.1 v ∧ Rep B ρ' r.2 w' ∧ Evo B ρ h w ρ' r.2 w'

/-- What an operation leaves: a value in its slot, and the next state. -/
def After (B : Nat) {R : Type} (o : Oper) (a : Act) (ρ : RMap) (h : AHeap) (w : World) (K : AV → AHeap → Option R) (r : R) : Act → World → Prop :=
  fun a' w' => ∃ (ρ' : RMap) (v : AV) (v' : Value) (h' : AHeap), K v h' = some r ∧ a' = a.put o.dst v' ∧ VRel ρ' v v' ∧ Rep B ρ' h' w' ∧ Evo B ρ h w ρ' h' w'

theorem wp_value {P : Program} {o : Oper} {a : Act} {w w' : World} {v : Value} {next : Act → World → Prop} {Q : Exit → Act → World → Prop} (h : (execOp a.eval o).run P w = .ok (.value v) w')
    (hn : next (a.put o.dst v) w') : o.wp P a w next Q := by
  unfold Oper.wp; rw [h]; exact hn
theorem wp_skip' {P : Program} {o : Oper} {a : Act} {w w' : World} {next : Act → World → Prop} {Q : Exit → Act → World → Prop} (h : (execOp a.eval o).run P w = .ok .skip w')
    (hn : next (a.put o.dst undef) w') : o.wp P a w next Q := by
  unfold Oper.wp; rw [h]; exact hn

theorem run_callFunc {P : Program} {w : World} {f : FuncId} (h : callable P f = true) (args : Array Value) : (callFunc f args).run P w = .ok (.enter f args) w := by
  unfold callable at h
  cases hf : P.funcs[f]? with
  | none => simp [hf] at h
  | some fn =>
    simp [hf] at h
    cases hb : fn.body with
    | none => simp [hb] at h
    | some c => simp [callFunc, hf, h.1, hb]

theorem run_amethod {P : Program} {w : World} {t : TypeId} {name : String} {f : FuncId} (h : amethod P t name = some f) (v : Value) (n : Nat) : (method (n + 1) t v name).run P w = .ok (f, v) w := by
  unfold amethod at h
  obtain ⟨i, hi, h1⟩ := Option.bind_eq_some_iff.1 h
  split at h1
  · rename_i m hm
    split at h1
    · rename_i hp
      have hp' : m.path.toList = [] := by simpa using hp
      split at h1
      · rename_i f' e hf hu
        cases h1
        simp [method, run_typeInfo' hi, hm, hp', follow, hf, receiverAt, run_underlying' hu, Place.get]
      · cases h1
      · rename_i f' d hne hf hu
        cases h1
        simp only [method, Sem.run_bind, run_typeInfo' hi, Result.andThen_ok, hm, hp', follow, Sem.run_pure, hf, receiverAt, run_underlying' hu, Place.get]
      · cases h1
    · cases h1
  · cases h1

theorem vrels_map {ρ : RMap} {e : Operand → AV} {f : Operand → Value} (he : ∀ x, VRel ρ (e x) (f x)) (l : List Operand) : VRels ρ (l.map e) (l.map f) := by
  induction l with
  | nil => simp [VRels.nil_iff]
  | cons x l ih => exact VRels.cons (he x) ih
theorem orel_map {ρ : RMap} {e : Operand → AV} {f : Operand → Value} (he : ∀ x, VRel ρ (e x) (f x)) (o : Option Operand) : ORel ρ (o.map e) (o.map f) := by
  cases o with
  | none => trivial
  | some x => exact he x

set_option maxHeartbeats 4000000 in
theorem aop_sim {P : Program} {B N : Nat} {call : FuncId → List AV → AHeap → Res} (hcall : CallSim P B call) {R : Type} {o : Oper} {a : Act} {e : Operand → AV} {ρ : RMap} {h : AHeap} {w : World} {K : AV → AHeap → Option R} {r : R}
    (hrun : aop P call o e h K = some r) (hK : ∀ v h', K v h' = some r → h'.length ≤ N) (hr : Rep B ρ h w) (hfr : ∀ id, h.length ≤ id → id < N → ρ id = none) (he : ∀ x, VRel ρ (e x) (a.eval x))
    (Q : Exit → Act → World → Prop) : o.wp P a w (After B o a ρ h w K r) Q := by
  have plain : ∀ {v : AV} {v' : Value}, K v h = some r → (execOp a.eval o).run P w = .ok (.value v') w → VRel ρ v v' → o.wp P a w (After B o a ρ h w K r) Q :=
    fun hk hx hv => wp_value hx ⟨ρ, _, _, h, hk, rfl, hv, hr, Evo.refl _ _ _ _⟩
  obtain ⟨dst, op, ty, pos, after, guard⟩ := o
  cases op with
  | move x => exact plain hrun (by simp [execOp]) (he x)
  | assign x => exact plain hrun (by simp [execOp]) (he x)
  | pick c x y =>
    simp only [aop] at hrun
    obtain ⟨v, h1, h2⟩ := Option.bind_eq_some_iff.1 hrun
    obtain ⟨v', e1, q⟩ := run_pick (P := P) (w := w) h1 (he c) (he x) (he y)
    exact plain h2 (by simpa [execOp] using e1) q
  | alloc t =>
    simp only [aop] at hrun
    obtain ⟨z, hz, h2⟩ := Option.bind_eq_some_iff.1 hrun
    obtain ⟨i, zv, hi, hzv, rfl⟩ := tzero_some hz
    have hn : ρ h.length = none := hfr _ (Nat.le_refl _) (by have := hK _ _ h2; simp at this; omega)
    obtain ⟨e1, R', E⟩ := run_newRow (P := P) hr hn t _ zv.cells (scals_rel ρ zv.cells.toList)
    refine wp_value (v := .pointer (some ⟨w.heap.size, 0, none⟩)) ?_ ⟨_, _, _, _, h2, rfl, VRel.ptr_iff.2 ⟨_, by simp [rset]; rfl, rfl⟩, R', E⟩
    simp [execOp, Instr.alloc, newVar, run_zeroValue' hi hzv, e1]
  | box t x =>
    simp only [aop] at hrun
    obtain ⟨cs, hc, h2⟩ := Option.bind_eq_some_iff.1 hrun
    have hn : ρ h.length = none := hfr _ (Nat.le_refl _) (by have := hK _ _ h2; simp at this; omega)
    obtain ⟨e1, R', E⟩ := run_newRow (P := P) hr hn t cs (a.eval x).cells (acells_rel hc (he x))
    refine wp_value (v := .pointer (some ⟨w.heap.size, 0, none⟩)) ?_ ⟨_, _, _, _, h2, rfl, VRel.ptr_iff.2 ⟨_, by simp [rset]; rfl, rfl⟩, R', E⟩
    simp [execOp, Instr.box, newVar, e1]
  | build t ps =>
    simp only [aop] at hrun
    obtain ⟨v, h1, h2⟩ := Option.bind_eq_some_iff.1 hrun
    obtain ⟨v', e1, q⟩ := run_abuild (P := P) (w := w) (ρ := ρ) (qs := ps.map fun p => (p.1, a.eval p.2)) h1 (by rw [Array.toList_map]; exact PRels.map _ _ _ he)
    exact plain h2 (by simp [execOp, e1]) q
  | buildSlice t n ps =>
    simp only [aop] at hrun
    obtain ⟨el, h1, h2⟩ := Option.bind_eq_some_iff.1 hrun
    obtain ⟨⟨v, h'⟩, h3, h4⟩ := Option.bind_eq_some_iff.1 h2
    have hlen : h'.length = h.length + 1 := by
      unfold abuildSlice at h3
      obtain ⟨_, _, h3⟩ := Option.bind_eq_some_iff.1 h3
      obtain ⟨_, _, h3⟩ := Option.bind_eq_some_iff.1 h3
      split at h3
      · obtain ⟨_, _, h3⟩ := Option.map_eq_some_iff.1 h3
        cases h3; simp
      · cases h3
    have hn : ρ h.length = none := hfr _ (Nat.le_refl _) (by have := hK _ _ h4; simp only at this; omega)
    obtain ⟨v', w', ρ', e1, q, R', E⟩ := run_abuildSlice (P := P) (qs := ps.map fun p => (p.1, a.eval p.2)) hr hn h1 h3 (by rw [Array.toList_map]; exact PRels.map _ _ _ he)
    exact wp_value (by simp [execOp, e1]) ⟨_, _, _, _, h4, rfl, q, R', E⟩
  | load t x =>
    simp only [aop] at hrun
    obtain ⟨ag, h1, h2⟩ := Option.bind_eq_some_iff.1 hrun
    obtain ⟨sz, h3, h4⟩ := Option.bind_eq_some_iff.1 h2
    obtain ⟨v, h5, h6⟩ := Option.bind_eq_some_iff.1 h4
    obtain ⟨v', e1, q⟩ := run_aload (P := P) hr h1 h3 h5 (he x)
    exact plain h6 (by simp [execOp, e1]) q
  | store t x y =>
    simp only [aop] at hrun
    obtain ⟨ag, h1, h2⟩ := Option.bind_eq_some_iff.1 hrun
    obtain ⟨sz, h3, h4⟩ := Option.bind_eq_some_iff.1 h2
    split at h4
    · rename_i hag
      obtain ⟨h', h5, h6⟩ := Option.bind_eq_some_iff.1 h4
      obtain ⟨w', e1, R', E⟩ := run_astore (P := P) hr h1 h3 hag h5 (he x) (he y)
      exact wp_skip' (by simp [execOp, e1]) ⟨ρ, _, _, _, h6, rfl, by simp [VRel, VRels, undef], R', E⟩
    · cases h4
  | nilCheck x =>
    simp only [aop] at hrun
    obtain ⟨v, h1, h2⟩ := Option.bind_eq_some_iff.1 hrun
    have hx := he x
    unfold anil at h1
    split at h1
    · rename_i b o hxe
      cases h1
      rw [hxe] at hx h2
      obtain ⟨i, hi, hv⟩ := VRel.ptr_iff.1 hx
      exact plain h2 (by simp [execOp, hv]) (VRel.ptr_iff.2 ⟨i, hi, rfl⟩)
    · rename_i f p q hxe
      cases h1
      rw [hxe] at hx h2
      obtain ⟨xs, ys, hv, k1, k2⟩ := VRel.func_iff.1 hx
      exact plain h2 (by simp [execOp, hv]) (VRel.func_iff.2 ⟨xs, ys, rfl, k1, k2⟩)
    · cases h1
  | binOp op t x y u =>
    simp only [aop] at hrun
    obtain ⟨v, h1, h2⟩ := Option.bind_eq_some_iff.1 hrun
    obtain ⟨v', e1, q⟩ := run_abin (P := P) (w := w) h1 (he x) (he y)
    refine plain h2 ?_ q
    simp only [execOp, Sem.run_bind] at e1 ⊢
    rw [e1]; rfl
  | unOp op t x =>
    simp only [aop] at hrun
    obtain ⟨v, h1, h2⟩ := Option.bind_eq_some_iff.1 hrun
    obtain ⟨v', e1, q⟩ := run_aun (P := P) (w := w) h1 (he x)
    exact plain h2 (by simp [execOp, e1]) q
  | convert s d x =>
    simp only [aop] at hrun
    obtain ⟨v, h1, h2⟩ := Option.bind_eq_some_iff.1 hrun
    obtain ⟨v', e1, q⟩ := run_aconv (P := P) hr h1 (he x)
    exact plain h2 (by simp [execOp, e1]) q
  | makeInterface t x =>
    simp only [aop] at hrun
    split at hrun
    · cases hrun
    · rename_i d hd hu
      refine plain hrun ?_ (VRel.iface_iff.2 ⟨_, rfl, he x⟩)
      simp [execOp, run_makeIface hu (fun ms hm => hd ms hm)]
    · cases hrun
  | makeFunc fn first caps =>
    cases fn with
    | func f =>
      simp only [aop] at hrun
      refine plain (v' := .func (.func f) (first.map a.eval) (caps.map a.eval)) hrun (by simp [execOp, Instr.makeFunc]) (VRel.func_iff.2 ⟨_, _, rfl, ?_, ?_⟩)
      · rw [Array.toList_map]; exact vrels_map he _
      · rw [Array.toList_map]; exact vrels_map he _
    | _ => simp [aop] at hrun
  | makeSlice t l c =>
    simp only [aop] at hrun
    obtain ⟨el, h1, h2⟩ := Option.bind_eq_some_iff.1 hrun
    obtain ⟨⟨v, h'⟩, h3, h4⟩ := Option.bind_eq_some_iff.1 h2
    have hlen : h'.length = h.length + 1 := by
      unfold amake at h3
      obtain ⟨_, _, h3⟩ := Option.bind_eq_some_iff.1 h3
      obtain ⟨_, _, h3⟩ := Option.bind_eq_some_iff.1 h3
      obtain ⟨_, _, h3⟩ := Option.bind_eq_some_iff.1 h3
      split at h3
      · split at h3
        · cases h3; simp
        · cases h3
      · cases h3
    have hn : ρ h.length = none := hfr _ (Nat.le_refl _) (by have := hK _ _ h4; simp only at this; omega)
    obtain ⟨v', w', ρ', e1, q, R', E⟩ := run_amake (P := P) hr hn h1 h3 (he l) (he c)
    exact wp_value (by simp [execOp, e1]) ⟨_, _, _, _, h4, rfl, q, R', E⟩
  | slice t x lo hi mx =>
    cases mx with
    | some _ => simp [aop] at hrun
    | none =>
      simp only [aop] at hrun
      obtain ⟨v, h1, h2⟩ := Option.bind_eq_some_iff.1 hrun
      obtain ⟨v', e1, q⟩ := run_aslice (P := P) hr h1 (he x) (orel_map he lo) (orel_map he hi)
      exact plain h2 (by simp [execOp, e1]) q
  | fieldAddr t x f =>
    simp only [aop] at hrun
    obtain ⟨⟨ft, off⟩, h1, h2⟩ := Option.bind_eq_some_iff.1 hrun
    obtain ⟨sz, h3, h4⟩ := Option.bind_eq_some_iff.1 h2
    split at h4
    · cases h4
    · rename_i hsz
      obtain ⟨v, h5, h6⟩ := Option.bind_eq_some_iff.1 h4
      obtain ⟨v', e1, q⟩ := run_fieldAt (P := P) (w := w) h1 h3 hsz h5 (he x)
      exact plain h6 (by simp [execOp, e1]) q
  | field t x f =>
    simp only [aop] at hrun
    obtain ⟨v, h1, h2⟩ := Option.bind_eq_some_iff.1 hrun
    obtain ⟨v', e1, q⟩ := run_field (P := P) (w := w) h1 (he x)
    exact plain h2 (by simp [execOp, e1]) q
  | indexAddr t x i =>
    simp only [aop] at hrun
    obtain ⟨v, h1, h2⟩ := Option.bind_eq_some_iff.1 hrun
    obtain ⟨v', e1, q⟩ := run_indexAt (P := P) (w := w) h1 (he x) (he i)
    exact plain h2 (by simp [execOp, e1]) q
  | index t x i =>
    simp only [aop] at hrun
    obtain ⟨v, h1, h2⟩ := Option.bind_eq_some_iff.1 hrun
    obtain ⟨v', e1, q⟩ := run_index (P := P) (w := w) h1 (he x) (he i)
    exact plain h2 (by simp [execOp, e1]) q
  | typeAssert x t u ok =>
    simp only [aop] at hrun
    obtain ⟨v, h1, h2⟩ := Option.bind_eq_some_iff.1 hrun
    obtain ⟨v', e1, q⟩ := run_aassert (P := P) (w := w) (xt := t) h1 (he x)
    exact plain h2 (by simp [execOp, e1]) q
  | extract x i =>
    simp only [aop] at hrun
    obtain ⟨v, h1, h2⟩ := Option.bind_eq_some_iff.1 hrun
    obtain ⟨v', e1, q⟩ := run_extract (P := P) (w := w) h1 (he x)
    exact plain h2 (by simp [execOp, e1]) q
  | call c =>
    obtain ⟨callee, cargs, ctypes⟩ := c
    cases callee with
    | value f =>
      simp only [aop] at hrun
      split at hrun
      · rename_i g first caps hf
        split at hrun
        · rename_i hcb
          obtain ⟨⟨v, h'⟩, h1, h2⟩ := Option.bind_eq_some_iff.1 hrun
          have hx := he f
          rw [hf] at hx
          obtain ⟨xs, ys, hv, k1, k2⟩ := VRel.func_iff.1 hx
          have hargs : VRels ρ (first ++ cargs.toList.map e ++ caps) (xs ++ cargs.map a.eval ++ ys).toList := by
            rw [Array.toList_append, Array.toList_append, Array.toList_map]
            exact (k1.append (vrels_map he _)).append k2
          have hc := hcall g _ h (v, h') h1 ρ w _ hr hargs fun id i1 i2 => hfr id i1 (Nat.lt_of_lt_of_le i2 (hK _ _ h2))
          have hx' : (execOp a.eval ⟨dst, .call ⟨.value f, cargs, ctypes⟩, ty, pos, after, guard⟩).run P w = .ok (.enter g (xs ++ cargs.map a.eval ++ ys)) w := by
            simp only [execOp, resolve, Sem.run_bind, hv, Deferred.ofValue, Sem.run_pure, Result.andThen_ok, invoke, run_callFunc hcb]
          unfold Oper.wp
          rw [hx']
          rw [Array.toArray_toList] at hc
          refine Calls.mono hc ?_
          rintro e' w' ⟨ρ', v', rfl, q, R', E⟩
          exact ⟨ρ', v, v', h', h2, rfl, q, R', E⟩
        · cases hrun
      · cases hrun
    | invoke f name =>
      simp only [aop] at hrun
      split at hrun
      · rename_i t v0 hf
        obtain ⟨g, hm, h0⟩ := Option.bind_eq_some_iff.1 hrun
        split at h0
        · rename_i hcb
          obtain ⟨⟨v, h'⟩, h1, h2⟩ := Option.bind_eq_some_iff.1 h0
          have hx := he f
          rw [hf] at hx
          obtain ⟨y, hv, k1⟩ := VRel.iface_iff.1 hx
          have hargs : VRels ρ (v0 :: cargs.toList.map e) (#[y] ++ cargs.map a.eval).toList := by
            rw [Array.toList_append, Array.toList_map]
            exact VRels.cons k1 (vrels_map he _)
          have hc := hcall g _ h (v, h') h1 ρ w _ hr hargs fun id i1 i2 => hfr id i1 (Nat.lt_of_lt_of_le i2 (hK _ _ h2))
          have hx' : (execOp a.eval ⟨dst, .call ⟨.invoke f name, cargs, ctypes⟩, ty, pos, after, guard⟩).run P w = .ok (.enter g (#[y] ++ cargs.map a.eval)) w := by
            have hd : P.types.size + Made.depth = (P.types.size + Made.depth - 1) + 1 := by unfold Made.depth; omega
            have hargs : ((#[Value.iface t y] ++ cargs.map a.eval).extract 1 (#[Value.iface t y] ++ cargs.map a.eval).size) = cargs.map a.eval := by
              apply Array.ext'
              simp only [Array.toList_extract, List.extract_eq_take_drop, Array.toList_append, Array.size_append]
              simp [List.take_of_length_le]
            have h0 : (#[Value.iface t y] ++ cargs.map a.eval)[0]? = some (.iface t y) := by rw [Array.getElem?_append_left (by simp)]; rfl
            have hex : (execOp a.eval ⟨dst, .call ⟨.invoke f name, cargs, ctypes⟩, ty, pos, after, guard⟩) = (do
                let (f, receiver) ← method ((← program).types.size + Made.depth) t y name
                callFunc f (#[receiver] ++ cargs.map a.eval)) := by
              simp only [execOp, resolve, hv]
              show invoke (.fn (.method name) #[]) (#[Value.iface t y] ++ cargs.map a.eval) = _
              unfold invoke
              rw [h0]
              simp only [callMethod, hargs]
            rw [hex]
            simp only [Sem.run_bind, run_program, Result.andThen_ok]
            rw [hd, run_amethod hm]
            simp only [Result.andThen_ok, run_callFunc hcb]
          unfold Oper.wp
          rw [hx']
          rw [Array.toArray_toList] at hc
          refine Calls.mono hc ?_
          rintro e' w' ⟨ρ', v', rfl, q, R', E⟩
          exact ⟨ρ', v, v', h', h2, rfl, q, R', E⟩
        · cases h0
      · cases hrun
    | builtin b =>
      cases b with
      | len =>
        simp only [aop] at hrun
        split at hrun
        · rename_i x t hx ht
          obtain ⟨n, h1, h2⟩ := Option.bind_eq_some_iff.1 hrun
          have ex : cargs = #[x] := by rw [← Array.toArray_toList (xs := cargs), hx]
          have et : ctypes = #[t] := by rw [← Array.toArray_toList (xs := ctypes), ht]
          subst ex; subst et
          refine plain h2 ?_ (VRel.int_iff.2 rfl)
          simp only [execOp, resolve, invoke, builtin, Sem.run_bind, Sem.run_pure, Result.andThen_ok]
          rw [show (#[x].map a.eval) = #[a.eval x] from by simp, run_alen h1 (he x)]
          rfl
        · cases hrun
      | append =>
        simp only [aop] at hrun
        split at hrun
        · rename_i s x t u hx ht
          have ex : cargs = #[s, x] := by rw [← Array.toArray_toList (xs := cargs), hx]
          have et : ctypes = #[t, u] := by rw [← Array.toArray_toList (xs := ctypes), ht]
          subst ex; subst et
          obtain ⟨el, h1, q1⟩ := Option.bind_eq_some_iff.1 hrun
          obtain ⟨sz, h2, q2⟩ := Option.bind_eq_some_iff.1 q1
          obtain ⟨by', h3, q3⟩ := Option.bind_eq_some_iff.1 q2
          obtain ⟨z, h4, q4⟩ := Option.bind_eq_some_iff.1 q3
          have main : ∀ (d : TypeDesc), P.underlying u = some d → (∀ k, d ≠ .int k) → (if sz = 0 ∨ by' = 0 ∨ z.length ≠ sz then none else (alenOf (e x)).bind fun m => (asrc sz (e x) h).bind fun xs => (aapp sz by' (e s) m xs h).bind fun r => K r.1 r.2) = some r →
              Oper.wp P ⟨dst, .call ⟨.builtin .append, #[s, x], #[t, u]⟩, ty, pos, after, guard⟩ a w (After B ⟨dst, .call ⟨.builtin .append, #[s, x], #[t, u]⟩, ty, pos, after, guard⟩ a ρ h w K r) Q := by
            intro d hu hd q
            split at q
            · cases q
            · rename_i h0
              obtain ⟨m, h5, q5⟩ := Option.bind_eq_some_iff.1 q
              obtain ⟨xs, h6, q6⟩ := Option.bind_eq_some_iff.1 q5
              obtain ⟨⟨v, h'⟩, h7, h8⟩ := Option.bind_eq_some_iff.1 q6
              have hlen : 0 < m → h'.length = h.length + 1 := by
                intro hm
                rcases aapp_some h7 with ⟨hm0, _⟩ | ⟨_, _, _, _, _, rfl⟩ | ⟨_, _, _, _, _, _, _, _, _, _, _, rfl⟩
                · omega
                · simp
                · simp
              have hn : 0 < m → ρ h.length = none := by
                intro hm
                have hle := hK _ _ h8
                simp only at hle
                exact hfr _ (Nat.le_refl _) (by have := hlen hm; omega)
              obtain ⟨v', w', ρ', e1, k1, R', E⟩ := run_aapp (P := P) (ty := ty) hr hn h1 h2 h3 h4 ⟨d, hu, hd⟩ h0 h5 h6 h7 (he s) (he x)
              refine wp_value (v := v') (w' := w') ?_ ⟨_, _, _, _, h8, rfl, k1, R', E⟩
              simp only [execOp, resolve, invoke, builtin, Sem.run_bind, Sem.run_pure, Result.andThen_ok]
              rw [show (#[s, x].map a.eval) = #[a.eval s, a.eval x] from by simp, e1]
              rfl
          split at q4
          · rename_i d hu; exact main _ hu (by simp) q4
          · rename_i hu; exact main _ hu (by simp) q4
          · cases q4
        · cases hrun
      | copy =>
        simp only [aop] at hrun
        split at hrun
        · rename_i d x t u hx ht
          have ex : cargs = #[d, x] := by rw [← Array.toArray_toList (xs := cargs), hx]
          have et : ctypes = #[t, u] := by rw [← Array.toArray_toList (xs := ctypes), ht]
          subst ex; subst et
          obtain ⟨el, h1, q1⟩ := Option.bind_eq_some_iff.1 hrun
          obtain ⟨sz, h2, q2⟩ := Option.bind_eq_some_iff.1 q1
          split at q2
          · cases q2
          · rename_i h0
            obtain ⟨⟨v, h'⟩, h7, h8⟩ := Option.bind_eq_some_iff.1 q2
            obtain ⟨v', w', e1, k1, R', E⟩ := run_acopy (P := P) (u := u) (ty := ty) hr h1 h2 h0 h7 (he d) (he x)
            refine wp_value (v := v') (w' := w') ?_ ⟨_, _, _, _, h8, rfl, k1, R', E⟩
            simp only [execOp, resolve, invoke, builtin, Sem.run_bind, Sem.run_pure, Result.andThen_ok]
            rw [show (#[d, x].map a.eval) = #[a.eval d, a.eval x] from by simp, e1]
            rfl
        · cases hrun
      | min =>
        simp only [aop] at hrun
        split at hrun
        · rename_i x xs hx
          obtain ⟨v, h1, h2⟩ := Option.bind_eq_some_iff.1 hrun
          obtain ⟨v', e1, q⟩ := run_minmax (P := P) (w := w) h1 (he x) (vrels_map he xs)
          refine plain h2 ?_ q
          have ex : (cargs.map a.eval).toList = a.eval x :: xs.map a.eval := by rw [Array.toList_map, hx]; rfl
          simp only [execOp, resolve, invoke, builtin, Sem.run_bind, Sem.run_pure, Result.andThen_ok, Builtin.min_, ex]
          simp only [Bool.false_eq_true, if_false] at e1
          rw [e1]
          rfl
        · cases hrun
      | max =>
        simp only [aop] at hrun
        split at hrun
        · rename_i x xs hx
          obtain ⟨v, h1, h2⟩ := Option.bind_eq_some_iff.1 hrun
          obtain ⟨v', e1, q⟩ := run_minmax (P := P) (w := w) h1 (he x) (vrels_map he xs)
          refine plain h2 ?_ q
          have ex : (cargs.map a.eval).toList = a.eval x :: xs.map a.eval := by rw [Array.toList_map, hx]; rfl
          simp only [execOp, resolve, invoke, builtin, Sem.run_bind, Sem.run_pure, Result.andThen_ok, Builtin.max_, ex]
          simp only [if_true] at e1
          rw [e1]
          rfl
        · cases hrun
      | _ => simp [aop] at hrun
  | _ => simp [aop] at hrun
end Go.Ab
end
