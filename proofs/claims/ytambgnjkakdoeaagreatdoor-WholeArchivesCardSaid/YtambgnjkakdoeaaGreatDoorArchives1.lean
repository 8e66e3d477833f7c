import Derived.KernelRfl
import Derived.Laws.AppendOwn
import Derived.Laws.BytesString
import Derived.Laws.Cells
import Derived.Laws.MakeOwn
import Derived.Laws.OwnMore
import Derived.Laws.Sem
import Derived.Laws.World
import Derived.Orders
/- PART OF A PROOF (texts joined by a program): Core Tr S1 S2 S3 S4. -/
set_option linter.unusedVariables false
set_option linter.unusedSimpArgs false
set_option linter.unusedSectionVars false
namespace Go.Abs
inductive AVal where
 | bool (b : Bool)
 | int (k : IntKind) (n : Int)
 | str (l : List UInt8)
 | lit (v : Value)
 | agg (cs : List AVal)
 | tuple (vs : List AVal)
 | iface (t : TypeId) (v : AVal)
 | func (fn : Fn) (captured : List AVal)
 | view (sz : Nat) (es : List AVal) (clip tmp : Bool)
 | rptr (cs : List AVal) (tmp : Bool)
 | own (id sz off len : Nat) (clip : Bool)
 | ptr (id off : Nat)
 | eptr (id i off : Nat)
 | mapr (id : Nat)
 | junk
 deriving Inhabited
namespace AVal
def cells : AVal → List AVal
 | .agg cs => cs
 | v => [v]
def leaf : AVal → Bool
 | .agg _ | .tuple _ | .junk => false
 | .lit v => v.oneCell'
 | _ => true
def flat : AVal → Bool
 | .bool _ | .int _ _ | .str _ | .view _ _ _ false => true
 | .lit v => v.oneCell'
 | _ => false
def closed (v : AVal) : Bool := v.cells.all flat
def flatT : AVal → Bool
 | .view _ _ _ _ => true
 | v => v.flat
def closedT (v : AVal) : Bool := v.cells.all flatT
def undef : AVal := .lit Go.undef
def nilS : AVal := .lit (.slice none 0 0)
def nilI : AVal := .lit .nilIface
def nilP : AVal := .lit (.pointer none)
def byte (b : UInt8) : AVal := .int .u8 b.toNat
end AVal
def bytesOf : List AVal → Option (List UInt8)
 | [] => some []
 | .int .u8 n :: r => (bytesOf r).map (UInt8.ofNat n.toNat :: ·)
 | _ => none
inductive Node where
 | var (cs : List AVal)
 | row (es : List AVal) (sz : Nat)
 | map (es : List (AVal × AVal))
 | iter (l : List UInt8) (pos : Nat)
 deriving Inhabited
abbrev Heap := List (Nat × Node)
namespace Heap
def get : Heap → Nat → Option Node
 | [], _ => none
 |(k, n) :: r, id => if k = id then some n else get r id
def put : Heap → Nat → Node → Heap
 | [], _, _ => []
 |(k, n) :: r, id, m => if k = id then (k, m) :: r else (k, n) :: put r id m
def del : Heap → Nat → Heap
 | [], _ => []
 |(k, n) :: r, id => if k = id then r else (k, n) :: del r id
end Heap
inductive AOpd where
 | t (n : Nat)
 | c (v : AVal)
 deriving Inhabited
def AOpd.ev (env : List AVal) : AOpd → AVal
 | .t n => env.getD n .junk
 | .c v => v
inductive EqK where
 | other
 | bool
 | iface (ts : List TypeId)
 | slice
 | ptr
 | pair
 deriving Inhabited
inductive AOp where
 | mov (x : AOpd)
 | pick (c a b : AOpd)
 | bin (op : BinOp) (k : EqK) (cst : Bool) (x y : AOpd)
 | un (op : UnOp) (x : AOpd)
 | cvi (k : IntKind) (x : AOpd)
 | cvs (x : AOpd)
 | cvsb (x : AOpd)
 | cvbs (x : AOpd)
 | cvb (x : AOpd)
 | mkif (t : TypeId) (x : AOpd)
 | tass (t : TypeId) (ok : Bool) (zero : AVal) (x : AOpd)
 | alloc (zero : List AVal)
 | box (x : AOpd)
 | build (zero : List AVal) (parts : List (Nat × Nat × AOpd))
 | bslice (sz len : Nat) (zero : List AVal) (parts : List AOpd)
 | fa (off : Nat) (x : AOpd)
 | fld (off sz : Nat) (agg : Bool) (x : AOpd)
 | ixa (sz : Nat) (x i : AOpd)
 | ixs (x i : AOpd)
 | ixp (n sz : Nat) (x i : AOpd)
 | ld (sz : Nat) (agg : Bool) (x : AOpd)
 | st (sz : Nat) (x v : AOpd)
 | nilck (x : AOpd)
 | slc (sz : Nat) (x : AOpd) (lo hi mx : Option AOpd)
 | mksl (bytes sz : Nat) (zero : List AVal) (n c : AOpd)
 | ext (x : AOpd) (i : Nat)
 | call (f : AOpd) (args : List AOpd)
 | slct (x : AOpd) (lo hi : Option AOpd)
 | len (k : Nat) (x : AOpd)
 | app (bytes sz : Nat) (s x : AOpd)
 | appz (bytes sz : Nat) (zero : List AVal) (s x : AOpd)
 | copy (sz : Nat) (d s : AOpd)
 | minmax (mx : Bool) (x y : AOpd)
 | mkfn (fn : Fn) (captured : List AOpd)
 | mkmap
 | look (kk : Nat) (zero : AVal) (m k : AOpd) (ok : Bool)
 | mupd (kk : Nat) (m k v : AOpd)
 | range (x : AOpd)
 | next (x : AOpd)
 | bad
 deriving Inhabited
structure AOper where
 dst : Option Nat
 op : AOp
 guard : Option (Nat × Bool)
 deriving Inhabited
inductive ACode where
 | skip
 | reg (draw : Bool) (pairs : List (Nat × Nat)) (ops : List AOper)
 | seq (a b : ACode)
 | cond (c : AOpd) (a b : ACode)
 | block (id : Nat) (a : ACode)
 | loop (live : List Nat) (a : ACode)
 | exit (id : Nat)
 | ret
 deriving Inhabited
def intOp (op : BinOp) (k : IntKind) (a : Int) (k' : IntKind) (b : Int) : Option AVal :=
 match op with
 | .shl => if b < 0 then none else some (.int k (k.wrap (a * 2 ^ (min b.toNat k.bits))))
 | .shr => if b < 0 then none else some (.int k (a.fdiv (2 ^ (min b.toNat k.bits))))
 | op =>
  if k = k' then
   match op with
   | .add => some (.int k (k.wrap (a + b)))
   | .sub => some (.int k (k.wrap (a - b)))
   | .mul => some (.int k (k.wrap (a * b)))
   | .quo => if b = 0 then none else some (.int k (k.wrap (a.tdiv b)))
   | .rem => if b = 0 then none else some (.int k (a.tmod b))
   | .and => some (.int k (k.wrap (BitVec.ofInt k.bits a &&& BitVec.ofInt k.bits b).toNat))
   | .or => some (.int k (k.wrap (BitVec.ofInt k.bits a ||| BitVec.ofInt k.bits b).toNat))
   | .xor => some (.int k (k.wrap (BitVec.ofInt k.bits a ^^^ BitVec.ofInt k.bits b).toNat))
   | .andNot => some (.int k (k.wrap (BitVec.ofInt k.bits a &&& ~~~BitVec.ofInt k.bits b).toNat))
   | .eql => some (.bool (a == b))
   | .neq => some (.bool (a != b))
   | .lss => some (.bool (a < b))
   | .leq => some (.bool (a ≤ b))
   | .gtr => some (.bool (a > b))
   | .geq => some (.bool (a ≥ b))
   | _ => none
  else none
def strMax : Nat := 2 ^ 62
def strOp (op : BinOp) (x y : List UInt8) : Option AVal :=
 match op with
 | .add => if x.length + y.length ≤ strMax then some (.str (x ++ y)) else none
 | .eql => some (.bool (x == y))
 | .neq => some (.bool (!(x == y)))
 | .lss => some (.bool (Op.bytesLess x y))
 | .leq => some (.bool (Op.bytesLess x y || x == y))
 | .gtr => some (.bool (!(Op.bytesLess x y || x == y)))
 | .geq => some (.bool (!Op.bytesLess x y))
 | _ => none
def aEq (k : EqK) (cst : Bool) (x y : AVal) : Option Bool :=
 match k, x, y with
 | .bool, .bool a, .bool b => some (a == b)
 | .iface _, .lit .nilIface, .lit .nilIface => if cst then some true else none
 | .iface _, .lit .nilIface, .iface _ _ => some false
 | .iface _, .iface _ _, .lit .nilIface => some false
 | .iface ts, .iface t (.int k a), .iface u (.int k' b) => if t = u then (if k = k' then (if ts.contains t then some (a == b) else none) else none) else some false
 | .slice, .lit (.slice none _ _), .lit (.slice none _ _) => some true
 | .slice, .view _ _ _ _, .lit (.slice none _ _) => some false
 | .slice, .own _ _ _ _ _, .lit (.slice none _ _) => some false
 | .slice, .lit (.slice none _ _), .view _ _ _ _ => some false
 | .slice, .lit (.slice none _ _), .own _ _ _ _ _ => some false
 | .ptr, .lit (.pointer none), .lit (.pointer none) => some true
 | .ptr, .ptr _ _, .lit (.pointer none) => some false
 | .ptr, .lit (.pointer none), .ptr _ _ => some false
 | .pair, .agg [.str a, .str b], .agg [.str a', .str b'] => some (a == a' && b == b')
 | _, _, _ => none
def aBin (op : BinOp) (k : EqK) (cst : Bool) (x y : AVal) : Option AVal :=
 match x, y with
 | .int k a, .int k' b => intOp op k a k' b
 | .str a, .str b => strOp op a b
 | x, y =>
  match op with
  | .eql => (aEq k cst x y).map .bool
  | .neq => (aEq k cst x y).map fun b => .bool (!b)
  | _ => none
def aUn (op : UnOp) (x : AVal) : Option AVal :=
 match op, x with
 | .neg, .int k n => some (.int k (k.wrap (0 - n)))
 | .xor, .int k n => some (.int k (k.wrap (BitVec.ofInt k.bits (if k.signed then -1 else k.max) ^^^ BitVec.ofInt k.bits n).toNat))
 | .not, .bool b => some (.bool (!b))
 | _, _ => none
def part (cs : List AVal) (off sz : Nat) (agg : Bool) : Option AVal :=
 if agg then (if off + sz ≤ cs.length then some (.agg ((cs.drop off).take sz)) else none) else cs[off]?
def splice (cs : List AVal) (off : Nat) (vs : List AVal) : List AVal := cs.take off ++ vs ++ cs.drop (off + vs.length)
def fillA (zero : List AVal) : List (Nat × Nat × AVal) → Option (List AVal)
 | [] => some zero
 |(off, sz, v) :: r => if v.cells.length = sz ∧ off + sz ≤ zero.length ∧ v.cells.all AVal.leaf = true then fillA (splice zero off v.cells) r else none
def elems (h : Heap) : AVal → Option (List AVal)
 | .view _ es _ _ => some es
 | .lit (.slice none 0 0) => some []
 | .own id _ off len _ => match h.get id with
  | some (.row es _) => if off + len ≤ es.length then some ((es.drop off).take len) else none
  | _ => none
 | _ => none
def szIs (sz : Nat) : AVal → Bool
 | .view z _ _ _ => z == sz
 | .lit (.slice none 0 0) => true
 | .own _ z _ _ _ => z == sz
 | .str _ => sz == 1
 | _ => false
def ofCells : List AVal → AVal
 | [c] => c
 | cs => .agg cs
def toNat? : AVal → Option Nat
 | .int _ n => if 0 ≤ n then some n.toNat else none
 | _ => none
def natOr (d : Nat) : Option AVal → Option Nat
 | none => some d
 | some v => toNat? v
def bounds (n : Nat) (lo hi mx : Option AVal) : Option (Nat × Nat × Option Nat) :=
 match mx with
 | none => match natOr 0 lo, natOr n hi with
  | some l, some h => if l ≤ h ∧ h ≤ n then some (l, h, none) else none
  | _, _ => none
 | some v => match toNat? v, natOr 0 lo, natOr n hi with
  | some m, some l, some h => if l ≤ h ∧ h ≤ m ∧ m ≤ n then some (l, h, some m) else none
  | _, _, _ => none
def clipOf (m : Option Nat) (h n : Nat) (clip : Bool) : Bool :=
 match m with
 | some m => m == h
 | none => clip && h == n
def aSlice (sz : Nat) (x : AVal) (lo hi mx : Option AVal) : Option AVal :=
 match x with
 | .str s => match bounds s.length lo hi none with
  | some (l, h, _) => if mx.isNone then some (.str ((s.drop l).take (h - l))) else none
  | none => none
 | .view z es clip tmp => match bounds es.length lo hi mx with
  | some (l, h, m) => if z = sz then some (.view z ((es.drop l).take (h - l)) (clipOf m h es.length clip) tmp) else none
  | none => none
 | .own id z off len clip => match bounds len lo hi mx with
  | some (l, h, m) => if z = sz ∧ (m.isNone ∨ m = some h) ∧ (clip = false ∨ h = len) then some (.own id z (off + l) (h - l) (m.isSome || clip)) else none
  | none => none
 | .lit (.slice none 0 0) => match bounds 0 lo hi mx with
  | some _ => some (.lit (.slice none 0 0))
  | none => none
 | _ => none
def roomMax : Nat := 140737488355328
def appended (h : Heap) : AVal → Option (List AVal)
 | .str s => some (s.map .byte)
 | .view _ es _ true => if es.all AVal.closed = true then some es else none
 | v => elems h v
def keyEq : AVal → AVal → Option Bool
 | .int k a, .int k' b => if k = k' then some (a == b) else none
 | .str a, .str b => some (a == b)
 | .bool a, .bool b => some (a == b)
 | _, _ => none
def keyOk : Nat → AVal → Bool
 | 0, .str _ => true
 | 1, .int _ _ => true
 | 2, .bool _ => true
 | _, _ => false
def findKey (k : AVal) : List (AVal × AVal) → Nat → Option (Option (Nat × AVal))
 | [], _ => some none
 |(k', v) :: r, i => match keyEq k k' with
  | some true => some (some (i, v))
  | some false => findKey k r (i + 1)
  | none => none
def setVal : List (AVal × AVal) → Nat → AVal → List (AVal × AVal)
 | [], _, _ => []
 |(k, _) :: r, 0, v => (k, v) :: r
 | e :: r, i + 1, v => e :: setVal r i v
def allSz (sz : Nat) (es : List AVal) : Bool := es.all fun e => e.cells.length == sz
def consume1 (h : Heap) : AVal → Option (AVal × Heap)
 | .own id z off len clip => match h.get id with
  | some (.row es _) => if off + len ≤ es.length then some (.view z ((es.drop off).take len) clip false, h.del id) else none
  | _ => none
 | v => some (v, h)
def consumeCs (h : Heap) : List AVal → Option (List AVal × Heap)
 | [] => some ([], h)
 | c :: r => do
  let (c, h) ← consume1 h c
  let (r, h) ← consumeCs h r
  some (c :: r, h)
def consume (h : Heap) : AVal → Option (AVal × Heap)
 | .agg cs => (consumeCs h cs).map fun (cs, h) => (.agg cs, h)
 | v => consume1 h v
def consumeL (h : Heap) : List AVal → Option (List AVal × Heap)
 | [] => some ([], h)
 | c :: r => do
  let (c, h) ← consume h c
  let (r, h) ← consumeL h r
  some (c :: r, h)
def appendTo (bytes sz : Nat) (s : AVal) (xs : List AVal) (nid : Nat) (h : Heap) : Option (AVal × Heap) :=
 match s with
 | .lit (.slice none 0 0) =>
  if xs.isEmpty then some (.nilS, h) else
  if xs.length * bytes ≤ roomMax ∧ xs.length < roomMax then some (.own nid sz 0 xs.length false, h ++ [(nid, .row xs sz)]) else none
 | .view z es true tmp =>
  if xs.isEmpty then some (.view z es true tmp, h) else
  if z = sz ∧ (es.length + xs.length) * bytes ≤ roomMax ∧ es.length + xs.length < roomMax ∧ (tmp = false ∨ es.all AVal.closed = true) then
   some (.own nid sz 0 (es.length + xs.length) false, h ++ [(nid, .row (es ++ xs) sz)]) else none
 | .own id z 0 len clip => match h.get id with
  | some (.row es _) =>
   if z = sz ∧ len ≤ es.length ∧ (len + xs.length) * bytes ≤ roomMax ∧ len + xs.length < roomMax then
    if clip then
     if xs.isEmpty then some (.own id z 0 len clip, h) else
     some (.own nid sz 0 (len + xs.length) false, h ++ [(nid, .row (es.take len ++ xs) sz)])
    else some (.own nid sz 0 (len + xs.length) false, h.del id ++ [(nid, .row (es.take len ++ xs) sz)])
   else none
  | _ => none
 | _ => none
def aop (op : AOp) (env : List AVal) (nid : Nat) (h : Heap) : Option (AVal × Heap) :=
 match op with
 | .mov x => some (x.ev env, h)
 | .pick c a b => match c.ev env with
  | .bool t => some (if t then a.ev env else b.ev env, h)
  | _ => none
 | .bin op k cst x y => (aBin op k cst (x.ev env) (y.ev env)).map (·, h)
 | .un op x => (aUn op (x.ev env)).map (·, h)
 | .cvi k x => match x.ev env with
  | .int _ n => some (.int k (k.wrap n), h)
  | _ => none
 | .cvs x => match x.ev env with
  | .str s => some (.str s, h)
  | _ => none
 | .cvsb x => match x.ev env with
  | .str s => some (.view 1 (s.map .byte) false false, h)
  | _ => none
 | .cvbs x => match (elems h (x.ev env)).bind bytesOf with
  | some l => some (.str l, h)
  | none => none
 | .cvb x => match x.ev env with
  | .own id z off len clip => match h.get id with
   | some (.row es _) => if off + len ≤ es.length ∧ z = 1 then some (.view z ((es.drop off).take len) clip false, h.del id) else none
   | _ => none
  | _ => none
 | .mkif t x => match x.ev env with
  | .junk => none
  | v => some (.iface t v, h)
 | .tass t ok zero x => match x.ev env with
  | .iface u v => if u = t then some (if ok then .tuple [v, .bool true] else v, h) else if ok then some (.tuple [zero, .bool false], h) else none
  | .lit .nilIface => if ok then some (.tuple [zero, .bool false], h) else none
  | _ => none
 | .alloc zero => some (.ptr nid 0, h ++ [(nid, .var zero)])
 | .box x => let v := x.ev env
  if v.cells.all AVal.leaf then some (.ptr nid 0, h ++ [(nid, .var v.cells)]) else none
 | .build zero parts => match fillA zero (parts.map fun (o, s, x) => (o, s, x.ev env)) with
  | some cs => some (.agg cs, h)
  | none => none
 | .bslice sz len zero parts =>
  match consumeL h (parts.map (·.ev env)) with
  | none => none
  | some (vs, h) =>
  if vs.all AVal.closed = false then (if vs.length = len ∧ allSz sz vs = true ∧ vs.all AVal.closedT = true ∧ 0 < sz ∧ zero.length = sz ∧ len * sz ≤ 16777216 then some (.view sz vs true true, h) else none) else
  if vs.length = len ∧ allSz sz vs ∧ vs.all AVal.closed ∧ 0 < sz ∧ zero.length = sz ∧ len * sz ≤ 16777216 then some (.own nid sz 0 len false, h ++ [(nid, .row vs sz)]) else none
 | .fa off x => match x.ev env with
  | .ptr id o => some (.ptr id (o + off), h)
  | .eptr id i o => some (.eptr id i (o + off), h)
  | .rptr cs tmp => some (.rptr (cs.drop off) tmp, h)
  | _ => none
 | .fld off sz agg x => match x.ev env with
  | .agg cs => (part cs off sz agg).map (·, h)
  | _ => none
 | .ixa sz x i => match x.ev env, toNat? (i.ev env) with
  | .view z es _ tmp, some i => match es[i]? with
   | some e => if z = sz then some (.rptr e.cells tmp, h) else none
   | none => none
  | .own id z off len _, some i => if z = sz ∧ i < len then some (.eptr id (off + i) 0, h) else none
  | _, _ => none
 | .ixp n sz x i => match x.ev env, toNat? (i.ev env) with
  | .ptr id o, some i => if i < n then some (.ptr id (o + i * sz), h) else none
  | _, _ => none
 | .ixs x i => match x.ev env, toNat? (i.ev env) with
  | .str s, some i => match s[i]? with
   | some b => some (.byte b, h)
   | none => none
  | _, _ => none
 | .ld sz agg x => match x.ev env with
  | .rptr cs _ => (part cs 0 sz agg).map (·, h)
  | .ptr id o => match h.get id with
   | some (.var cs) => (part cs o sz agg).map (·, h)
   | _ => none
  | .eptr id i o => match h.get id with
   | some (.row es _) => match es[i]? with
    | some e => (part e.cells o sz agg).map (·, h)
    | none => none
   | _ => none
  | _ => none
 | .st sz x v => let v := v.ev env
  if v.cells.length = sz ∧ v.cells.all AVal.leaf then
   match x.ev env with
   | .ptr id o => match h.get id with
    | some (.var cs) => if o + sz ≤ cs.length then some (.undef, h.put id (.var (splice cs o v.cells))) else none
    | _ => none
   | .eptr id i o => match h.get id with
    | some (.row es s) => match es[i]? with
     | some e => if o + sz ≤ s ∧ e.cells.length = s ∧ v.closed then
       some (.undef, h.put id (.row (es.set i (if sz = s then v else .agg (splice e.cells o v.cells))) s)) else none
     | none => none
    | _ => none
   | _ => none
  else none
 | .nilck x => match x.ev env with
  | .ptr id o => some (.ptr id o, h)
  | .eptr id i o => some (.eptr id i o, h)
  | .rptr cs tmp => some (.rptr cs tmp, h)
  | _ => none
 | .slc sz x lo hi mx => match x.ev env with
  | .str _ => none
  | v => (aSlice sz v (lo.map (·.ev env)) (hi.map (·.ev env)) (mx.map (·.ev env))).map (·, h)
 | .slct x lo hi => match x.ev env with
  | .str s => (aSlice 1 (.str s) (lo.map (·.ev env)) (hi.map (·.ev env)) none).map (·, h)
  | _ => none
 | .mksl bytes sz zero n c => match n.ev env, c.ev env with
  | .int .i64 n, .int .i64 c =>
   if 0 ≤ n ∧ n ≤ c ∧ c.toNat * bytes ≤ roomMax ∧ c ≤ 9223372036854775807 ∧ zero.length = sz ∧ 0 < sz ∧ zero.all AVal.flat ∧ zero.all AVal.leaf then
    some (.own nid sz 0 n.toNat false, h ++ [(nid, .row (List.replicate n.toNat (if sz = 1 then zero.headD .junk else .agg zero)) sz)])
   else none
  | _, _ => none
 | .ext x i => match x.ev env with
  | .tuple vs => vs[i]?.map (·, h)
  | _ => none
 | .call _ _ => none
 | .len 0 x => match x.ev env with
  | .str s => some (.int .i64 s.length, h)
  | _ => none
 | .len 1 x => match x.ev env with
  | .view _ es _ _ => some (.int .i64 es.length, h)
  | .own _ _ _ n _ => some (.int .i64 n, h)
  | .lit (.slice none 0 0) => some (.int .i64 0, h)
  | _ => none
 | .len 2 x => match x.ev env with
  | .mapr id => match h.get id with
   | some (.map es) => some (.int .i64 es.length, h)
   | _ => none
  | _ => none
 | .len _ _ => none
 | .app bytes sz s x => if szIs sz (x.ev env) = true ∧ 0 < sz then
   match appended h (x.ev env) with
   | some xs => appendTo bytes sz (s.ev env) xs nid h
   | none => none
  else none
 | .appz bytes sz zero s x => match x.ev env with
  | .int .i64 n => if 0 ≤ n ∧ n ≤ 9223372036854775807 ∧ n.toNat * bytes ≤ roomMax ∧ zero.length = sz ∧ 0 < sz ∧ zero.all AVal.flat = true then
    appendTo bytes sz (s.ev env) (List.replicate n.toNat (if sz = 1 then zero.headD .junk else .agg zero)) nid h
   else none
  | _ => none
 | .copy sz d s => if szIs sz (s.ev env) = true then
  match appended h (s.ev env), d.ev env with
  | some xs, .own id z off len _ => match h.get id with
   | some (.row es _) =>
    let n := min xs.length len
    if z = sz ∧ off + len ≤ es.length then some (.int .i64 n, h.put id (.row (es.take off ++ xs.take n ++ es.drop (off + n)) z)) else none
   | _ => none
  | _, _ => none
  else none
 | .minmax mx x y => match x.ev env, y.ev env with
  | .int k a, .int _ b => some (.int k (if mx then (if a < b then b else a) else (if b < a then b else a)), h)
  | _, _ => none
 | .mkfn fn cs => some (.func fn (cs.map (·.ev env)), h)
 | .mkmap => some (.mapr nid, h ++ [(nid, .map [])])
 | .look kk zero m k ok => if keyOk kk (k.ev env) = true then match m.ev env with
  | .mapr id => match h.get id with
   | some (.map es) => match findKey (k.ev env) es 0 with
    | some (some (_, v)) => some (if ok then .tuple [v, .bool true] else v, h)
    | some none => some (if ok then .tuple [zero, .bool false] else zero, h)
    | none => none
   | _ => none
  | _ => none
  else none
 | .mupd kk m k v => match m.ev env with
  | .mapr id => match h.get id with
   | some (.map es) => if (v.ev env).flat = true ∧ keyOk kk (k.ev env) = true then match findKey (k.ev env) es 0 with
    | some (some (i, _)) => some (.undef, h.put id (.map (setVal es i (v.ev env))))
    | some none => some (.undef, h.put id (.map (es ++ [(k.ev env, v.ev env)])))
    | none => none
    else none
   | _ => none
  | _ => none
 | .range x => match x.ev env with
  | .str l => some (.ptr nid 0, h ++ [(nid, .iter l 0)])
  | _ => none
 | .next x => match x.ev env with
  | .ptr id 0 => match h.get id with
   | some (.iter l pos) =>
    if pos < l.length then
     let r := Utf8.decode ⟨l.toArray⟩ pos
     some (.tuple [.bool true, .int .i64 pos, .int .i32 r.1], h.put id (.iter l (pos + r.2)))
    else some (.tuple [.bool false], h)
   | _ => none
  | _ => none
 | .bad => none
mutual
def AVal.ids : AVal → List Nat
 | .agg cs => idsL cs
 | .tuple cs => idsL cs
 | .iface _ v => v.ids
 | .func _ cs => idsL cs
 | .own id _ _ _ _ => [id]
 | .ptr id _ => [id]
 | .eptr id _ _ => [id]
 | .mapr id => [id]
 | .rptr cs _ => idsL cs
 | _ => []
def idsL : List AVal → List Nat
 | [] => []
 | c :: r => c.ids ++ idsL r
end
mutual
def AVal.ren (f : Nat → Option Nat) : AVal → AVal
 | .agg cs => .agg (renL f cs)
 | .tuple cs => .tuple (renL f cs)
 | .iface t v => .iface t (v.ren f)
 | .func fn cs => .func fn (renL f cs)
 | .own id z off len clip => match f id with | some k => .own k z off len clip | none => .junk
 | .ptr id off => match f id with | some k => .ptr k off | none => .junk
 | .eptr id i off => match f id with | some k => .eptr k i off | none => .junk
 | .mapr id => match f id with | some k => .mapr k | none => .junk
 | .rptr cs tmp => .rptr (renL f cs) tmp
 | v => v
def renL (f : Nat → Option Nat) : List AVal → List AVal
 | [] => []
 | c :: r => c.ren f :: renL f r
end
mutual
def AVal.noTmp : AVal → Bool
 | .agg cs => noTmpL cs
 | .tuple cs => noTmpL cs
 | .iface _ v => v.noTmp
 | .func _ cs => noTmpL cs
 | .view _ _ _ tmp => !tmp
 | .rptr cs tmp => !tmp && noTmpL cs
 | _ => true
def noTmpL : List AVal → Bool
 | [] => true
 | c :: r => c.noTmp && noTmpL r
end
def Node.ids : Node → List Nat
 | .var cs => idsL cs
 | _ => []
def Node.ren (f : Nat → Option Nat) : Node → Node
 | .var cs => .var (renL f cs)
 | n => n
def Node.noTmp : Node → Bool
 | .var cs => noTmpL cs
 | _ => true
def reach (h : Heap) : Nat → List Nat → List Nat → List Nat
 | 0, _, acc => acc
 | _ + 1, [], acc => acc
 | k + 1, id :: r, acc => if acc.contains id then reach h k r acc else
  match h.get id with
  | none => reach h k r (acc ++ [id])
  | some n => reach h k (n.ids ++ r) (acc ++ [id])
def present (h : Heap) (l : List Nat) : List Nat := l.filter fun id => (h.get id).isSome
def place : List Nat → Nat → Nat → Option Nat
 | [], _, _ => none
 | x :: r, i, id => if x = id then some i else place r (i + 1) id
def reachFuel : Nat := 400
def pickNodes (h : Heap) (f : Nat → Option Nat) : List Nat → Heap
 | [] => []
 | id :: r => match h.get id, f id with
  | some n, some k => (k, n.ren f) :: pickNodes h f r
  | _, _ => pickNodes h f r
def dropNodes (h : Heap) : List Nat → Heap
 | [] => h
 | id :: r => dropNodes (h.del id) r
def gcList (m : Nat) (h : Heap) (roots : List Nat) : List Nat :=
 List.range m ++ (present h (reach h reachFuel (List.range m ++ roots) [])).filter (m ≤ ·)
def gc (m : Nat) (h : Heap) (roots : List AVal) : List AVal × Heap :=
 let l := gcList m h (idsL roots)
 (renL (place l 0) roots, pickNodes h (place l 0) l)
def mask (live : List Nat) : Nat → List AVal → List AVal
 | _, [] => []
 | i, v :: r => (if live.contains i then v else .junk) :: mask live (i + 1) r
mutual
def AVal.lend (h : Heap) : AVal → Option AVal
 | .agg cs => (lendL h cs).map .agg
 | .own id z off len clip => match h.get id with
  | some (.row es _) => if off + len ≤ es.length then some (.view z ((es.drop off).take len) clip true) else none
  | _ => none
 | v => some v
def lendL (h : Heap) : List AVal → Option (List AVal)
 | [] => some []
 | c :: r => do
  let c ← c.lend h
  let r ← lendL h r
  some (c :: r)
end
mutual
def AVal.ownIds : AVal → List Nat
 | .agg cs => ownIdsL cs
 | .own id _ _ _ _ => [id]
 | _ => []
def ownIdsL : List AVal → List Nat
 | [] => []
 | c :: r => c.ownIds ++ ownIdsL r
end
structure ASt where
 env : List AVal
 heap : Heap
 next : Nat
inductive AExit where
 | norm
 | exit (id : Nat)
 | ret
 deriving DecidableEq
structure AFn where
 np : Nat
 ntmps : Nat
 results : List (Nat × Option (Nat × Bool))
 body : ACode
 deriving Inhabited
structure Calls where
 moves : Nat → Bool
 run : Nat → List AVal → Heap → Option (AVal × Heap)
def stride : Nat := 32
def setAt (d : Option Nat) (v : AVal) (env : List AVal) : List AVal :=
 match d with
 | some d => env.set d v
 | none => env
def callStep0 (C : Calls) (f : AVal) (args : List AVal) (nid : Nat) (h : Heap) : Option (AVal × Heap) :=
 match f with
 | .func (.func g) caps =>
  let args0 := args ++ caps
  let lent := !C.moves g && !(ownIdsL args0).isEmpty
  match (if lent then lendL h args0 else some args0) with
  | none => none
  | some args =>
   let moved := present h (reach h reachFuel (idsL args) [])
   if lent && (ownIdsL args0).any moved.contains then none else
   match C.run g (renL (place moved 0) args) (pickNodes h (place moved 0) moved) with
   | none => none
   | some (r, sub) =>
    if lent && !(r.noTmp && sub.all fun e => e.2.noTmp) then none else
    if sub.all (fun e => e.1 < moved.length + stride) then
     let back := fun i => if i < moved.length then moved[i]? else if i < moved.length + stride then some (nid + (i - moved.length)) else none
     some (r.ren back, dropNodes h moved ++ sub.map fun e => ((back e.1).getD 0, e.2.ren back))
    else none
 | _ => none
def callFp (C : Calls) (fv : AVal) (args : List AVal) (h : Heap) : List Nat :=
 match fv with
 | .func (.func g) caps =>
  let args0 := args ++ caps
  match (if !C.moves g && !(ownIdsL args0).isEmpty then lendL h args0 else some args0) with
  | some a => idsL args0 ++ reach h reachFuel (idsL a) []
  | none => idsL args0
 | _ => []
def roFn (g : Nat) : Bool := g == 212
def roCall : AVal → Bool
 | .func (.func g) _ => roFn g
 | _ => false
def AVal.same : AVal → AVal → Bool
 | .int k n, .int k' n' => decide (k = k') && decide (n = n')
 | .bool a, .bool b => a == b
 | .str a, .str b => decide (a = b)
 | _, _ => false
def sameL : List AVal → List AVal → Bool
 | [], [] => true
 | a :: r, b :: s => a.same b && sameL r s
 | _, _ => false
def Node.same : Node → Node → Bool
 | .var a, .var b => sameL a b
 | _, _ => false
def same1 : Option Node → Option Node → Bool
 | none, none => true
 | some a, some b => a.same b
 | _, _ => false
def roOk : List Nat → Heap → Heap → Bool
 | [], _, _ => true
 | id :: r, h, h' => same1 (h.get id) (h'.get id) && roOk r h h'
def callStep (C : Calls) (f : AVal) (args : List AVal) (nid : Nat) (h : Heap) : Option (AVal × Heap) :=
 match callStep0 C f args nid h with
 | some r => if (roCall f && !roOk (callFp C f args h) h r.2) = true then none else some r
 | none => none
def stepOp (C : Calls) (o : AOper) (nid : Nat) (st : ASt) : Option ASt :=
 let go : Option ASt :=
  match o.op with
  | .call f args => (callStep C (f.ev st.env) (args.map (·.ev st.env)) nid st.heap).map fun (v, h) => { st with env := setAt o.dst v st.env, heap := h }
  | op => (aop op st.env nid st.heap).map fun (v, h) => { st with env := setAt o.dst v st.env, heap := h }
 match o.guard with
 | none => go
 | some (g, want) =>
  match st.env.getD g .junk with
  | .bool b => if b = want then go else some { st with env := setAt o.dst .undef st.env }
  | .lit (.tuple _) => some { st with env := setAt o.dst .undef st.env }
  | _ => none
def runOps (C : Calls) : List AOper → Nat → ASt → Option ASt
 | [], nid, st => some { st with next := nid }
 | o :: r, nid, st => match stepOp C o nid st with
  | some st => runOps C r (nid + stride) st
  | none => none
def AOp.opds : AOp → List AOpd
 | .mov x | .un _ x | .cvi _ x | .cvs x | .cvsb x | .cvbs x | .cvb x | .mkif _ x | .tass _ _ _ x | .box x | .fa _ x | .fld _ _ _ x | .ld _ _ x | .nilck x | .ext x _ | .len _ x | .range x | .next x => [x]
 | .pick a b c | .mupd _ a b c => [a, b, c]
 | .bin _ _ _ x y | .ixa _ x y | .ixp _ _ x y | .ixs x y | .st _ x y | .mksl _ _ _ x y | .app _ _ x y | .appz _ _ _ x y | .copy _ x y | .minmax _ x y | .look _ _ x y _ => [x, y]
 | .alloc _ | .mkmap | .bad => []
 | .build _ ps => ps.map (·.2.2)
 | .bslice _ _ _ ps => ps
 | .slct x a b => x :: (a.toList ++ b.toList)
 | .slc _ x a b c => x :: (a.toList ++ b.toList ++ c.toList)
 | .call f xs => f :: xs
 | .mkfn _ xs => xs
def AOp.cls : AOp → Nat
 | .mov _ | .pick .. | .bin .. | .un .. | .cvi .. | .cvs _ | .cvsb _ | .mkif .. | .tass .. | .fa .. | .fld .. | .ixa .. | .ixp .. | .ixs .. | .nilck _ | .slc .. | .ext .. | .slct .. | .minmax .. | .mkfn .. | .build .. | .bad => 0
 | .len k _ => if k = 2 then 1 else 0
 | .ld .. | .cvbs _ | .look .. => 1
 | _ => 2
def AOp.ids (op : AOp) (env : List AVal) : List Nat := idsL (op.opds.map (·.ev env))
structure Foot where
 rd : List Nat
 wr : List Nat
def goFoot (C : Calls) (o : AOper) (st : ASt) : Foot :=
 match o.op with
 | .call f args => let l := callFp C (f.ev st.env) (args.map (·.ev st.env)) st.heap; ⟨l, if roCall (f.ev st.env) = true then [] else l⟩
 | op => if op.cls = 0 then ⟨[], []⟩ else if op.cls = 1 then ⟨op.ids st.env, []⟩ else ⟨op.ids st.env, op.ids st.env⟩
def footOf (C : Calls) (o : AOper) (st : ASt) : Foot :=
 match o.guard with
 | none => goFoot C o st
 | some (g, want) => match st.env.getD g .junk with
  | .bool b => if b = want then goFoot C o st else ⟨[], []⟩
  | _ => ⟨[], []⟩
def ownB (base i id : Nat) : Bool := decide (base + i * stride ≤ id) && decide (id < base + i * stride + stride)
def indepB (base : Nat) (fs : List Foot) (p : Nat × Nat) : Bool :=
 let x := fs.getD p.1 ⟨[], []⟩
 let y := fs.getD p.2 ⟨[], []⟩
 x.wr.all (fun id => !y.rd.contains id) && y.wr.all (fun id => !x.rd.contains id) && y.rd.all (fun id => !ownB base p.1 id) && x.rd.all (fun id => !ownB base p.2 id)
def runFeet (C : Calls) : List AOper → Nat → ASt → Option (ASt × List Foot)
 | [], nid, st => some ({ st with next := nid }, [])
 | o :: r, nid, st => match stepOp C o nid st with
  | some st1 => match runFeet C r (nid + stride) st1 with
   | some (st', fs) => some (st', footOf C o st :: fs)
   | none => none
  | none => none
def rounds (m : Nat) (live : List Nat) (body : ASt → Option (AExit × ASt)) : Nat → ASt → Option (AExit × ASt)
 | 0, _ => none
 | k + 1, st =>
  let g := gc m st.heap (mask live 0 st.env)
  match body { env := g.1, heap := g.2, next := m + g.2.length } with
  | some (.norm, st) => rounds m live body k st
  | r => r
def execC (C : Calls) (m k : Nat) : ACode → ASt → Option (AExit × ASt)
 | .skip, st => some (.norm, st)
 | .reg false _ ops, st => (runOps C ops st.next st).map (.norm, ·)
 | .reg true ps ops, st => match runFeet C ops st.next st with
  | some (st', fs) => if ps.all (indepB st.next fs) = true then some (.norm, st') else none
  | none => none
 | .seq a b, st => match execC C m k a st with
  | some (.norm, st) => execC C m k b st
  | r => r
 | .cond c a b, st => match c.ev st.env with
  | .bool t => if t then execC C m k a st else execC C m k b st
  | _ => none
 | .block id a, st => match execC C m k a st with
  | some (.exit i, st) => some (if i = id then .norm else .exit i, st)
  | r => r
 | .loop live a, st => rounds m live (execC C m k a) k st
 | .exit id, st => some (.exit id, st)
 | .ret, st => some (.ret, st)
def getRes (env : List AVal) (h : Heap) : List (Nat × Option (Nat × Bool)) → Option (List AVal)
 | [] => some []
 |(t, none) :: r => (getRes env h r).map (env.getD t .junk :: ·)
 |(t, some (sz, agg)) :: r => match env.getD t .junk with
  | .ptr id o => match h.get id with
   | some (.var cs) => match part cs o sz agg, getRes env h r with
    | some v, some vs => some (v :: vs)
    | _, _ => none
   | _ => none
  | _ => none
def finish (fn : AFn) (m : Nat) (st : ASt) : Option (AVal × Heap) :=
 match getRes st.env st.heap fn.results with
 | none => none
 | some vs =>
  let g := gc m st.heap vs
  some (match g.1 with | [v] => v | vs => .tuple vs, g.2)
def runFn (C : Calls) (k : Nat) (fn : AFn) (args : List AVal) (h : Heap) : Option (AVal × Heap) :=
 if args.length = fn.np then
  let m := h.length
  match execC C m k fn.body { env := args ++ List.replicate (fn.ntmps - args.length) .undef, heap := h, next := m } with
  | some (.norm, st) => finish fn m st
  | some (.ret, st) => finish fn m st
  | _ => none
 else none
structure AProg where
 fn : Nat → Option AFn
 moves : Nat → Bool
 prim : Nat → Option (List AVal → Option AVal)
 primh : Nat → Option (List AVal → Heap → Option (AVal × Heap)) := fun _ => none
def callF (A : AProg) : Nat → Nat → List AVal → Heap → Option (AVal × Heap)
 | 0, _, _, _ => none
 | k + 1, g, args, h =>
  match A.prim g with
  | some p => if h.isEmpty then (p args).map (·, []) else none
  | none => match A.fn g with
   | some fn => runFn { moves := A.moves, run := callF A k } k fn args h
   | none => match A.primh g with
    | some p => match p args h with
     | some (r, h') => if (h'.map (·.1)).Nodup then some (r, h') else none
     | none => none
    | none => none
end Go.Abs
namespace Go.Abs
def leafConst : Value → Option AVal
 | .bool b => some (.bool b)
 | .int k n => some (.int k n)
 | .string s => some (.str s.data.toList)
 | .slice none 0 0 => some .nilS
 | .pointer none => some .nilP
 | .map none => some (.lit (.map none))
 | .nilFunc => some (.lit .nilFunc)
 | .nilIface => some .nilI
 | .func (.func f) first captured => if first.size = 0 ∧ captured.size = 0 then some (.func (.func f) []) else none
 | _ => none
def leafConsts : List Value → Option (List AVal)
 | [] => some []
 | v :: r => match leafConst v, leafConsts r with
  | some c, some cs => some (c :: cs)
  | _, _ => none
def constOf : Value → Option AVal
 | .agg cs => (leafConsts cs.toList).map .agg
 | v => leafConst v
abbrev Globs := Nat → Option AVal
def trOpd (gl : Globs) : Operand → Option AOpd
 | .tmp t => some (.t t)
 | .const v => (constOf v).map .c
 | .func f => some (.c (.func (.func f) []))
 | .global g => (gl g).map .c
def trOpds (gl : Globs) : List Operand → Option (List AOpd)
 | [] => some []
 | x :: r => match trOpd gl x, trOpds gl r with
  | some c, some cs => some (c :: cs)
  | _, _ => none
def isC : Operand → Bool
 | .const _ => true
 | _ => false
def tsz (P : Program) (t : TypeId) : Option (Nat × Bool) :=
 match P.info? t, P.underlying t with
 | some i, some (.struct _) => some (i.size, true)
 | some i, some (.array _ _) => some (i.size, true)
 | some i, some _ => some (i.size, false)
 | _, _ => none
def tzero (P : Program) (t : TypeId) : Option AVal :=
 match P.info? t with
 | some i => i.zero.bind constOf
 | none => none
def oneOpt (f : Operand → Option AOpd) : Option Operand → Option (Option AOpd)
 | none => some none
 | some x => (f x).map some
def trParts (gl : Globs) (P : Program) (fields : Array Field) : List (Nat × Operand) → Option (List (Nat × Nat × AOpd))
 | [] => some []
 |(i, x) :: r => match fields[i]?, trOpd gl x, trParts gl P fields r with
  | some f, some x, some r => match P.info? f.type with
   | some fi => some ((f.offset, fi.size, x) :: r)
   | none => none
  | _, _, _ => none
def trRow (gl : Globs) : Nat → List (Nat × Operand) → Option (List AOpd)
 | _, [] => some []
 | n, (i, x) :: r => if i = n then match trOpd gl x, trRow gl (n + 1) r with
  | some x, some r => some (x :: r)
  | _, _ => none
  else none
def goodErr (P : Program) (t : TypeId) : Bool :=
 match P.info? t, P.underlying t with
 | some i, some (.int _) => i.comparable
 | _, _ => false
def pairB (P : Program) (t : TypeId) (fs : Array Field) : Bool := match fs.toList with
 | [f, g] => f.name != "_" && g.name != "_" && f.offset == 0 && g.offset == 1 && !P.stoodInHeld t && (match P.underlying f.type, P.underlying g.type with
  | some .string, some .string => true
  | _, _ => false)
 | _ => false
def eqK (P : Program) (ts : List TypeId) (t : TypeId) : EqK :=
 match P.underlying t with
 | some .bool => .bool
 | some (.slice _) => .slice
 | some (.pointer _) => .ptr
 | some (.interface _) => .iface (ts.filter (goodErr P))
 | some (.struct fs) => if pairB P t fs = true then .pair else .other
 | _ => .other
def trBuiltin (gl : Globs) (P : Program) (b : Builtin) (argTypes : List TypeId) (args : List Operand) : Option AOp :=
 match b, argTypes, args with
 | .len, [t], [x] => match P.underlying t with
  | some .string => (trOpd gl x).map (.len 0)
  | some (.slice _) => (trOpd gl x).map (.len 1)
  | some (.map _ _) => (trOpd gl x).map (.len 2)
  | _ => none
 | .append, [st, xt], [s, x] => match trOpd gl s, trOpd gl x with
  | some s, some x => match P.underlying st, P.underlying xt with
   | some (.slice e), some (.int .i64) => match P.info? e, tzero P e with
    | some i, some z => some (.appz i.bytes i.size z.cells s x)
    | _, _ => none
   | some (.slice e), some (.slice e') => match P.info? e, tzero P e with
    | some i, some z => if e = e' ∧ z.cells.length = i.size then some (.app i.bytes i.size s x) else none
    | _, _ => none
   | some (.slice e), some .string => match P.info? e, tzero P e with
    | some i, some z => if i.size = 1 ∧ z.cells.length = i.size then some (.app i.bytes i.size s x) else none
    | _, _ => none
   | _, _ => none
  | _, _ => none
 | .copy, [dt, xt], [d, s] => match trOpd gl d, trOpd gl s with
  | some d, some s => match P.underlying dt, P.underlying xt with
   | some (.slice e), some (.slice e') => match P.info? e with
    | some i => if e = e' then some (.copy i.size d s) else none
    | none => none
   | some (.slice e), some .string => match P.info? e with
    | some i => if i.size = 1 then some (.copy i.size d s) else none
    | none => none
   | _, _ => none
  | _, _ => none
 | .min, _, [x, y] => match trOpd gl x, trOpd gl y with
  | some x, some y => some (.minmax false x y)
  | _, _ => none
 | .max, _, [x, y] => match trOpd gl x, trOpd gl y with
  | some x, some y => some (.minmax true x y)
  | _, _ => none
 | _, _, _ => none
def trOp (gl : Globs) (P : Program) (ts : List TypeId) (o : Oper) : Option AOp :=
 match o.op with
 | .move x | .assign x => (trOpd gl x).map .mov
 | .pick c a b => match trOpd gl c, trOpd gl a, trOpd gl b with
  | some c, some a, some b => some (.pick c a b)
  | _, _, _ => none
 | .binOp op t x y _ => match trOpd gl x, trOpd gl y with
  | some x', some y' => some (.bin op (eqK P ts t) (isC x || isC y) x' y')
  | _, _ => none
 | .unOp op _ x => (trOpd gl x).map (.un op)
 | .convert src dst x => match P.underlying src, P.underlying dst, trOpd gl x with
  | some (.int _), some (.int k), some x => some (.cvi k x)
  | some .string, some .string, some x => some (.cvs x)
  | some .string, some (.slice e), some x => match P.underlying e, P.info? e with
   | some (.int .u8), some i => if i.size = 1 then some (.cvsb x) else none
   | _, _ => none
  | some (.slice _), some (.slice e), some x => match P.underlying e, P.info? e with
   | some (.int .u8), some i => if i.size = 1 ∧ src = dst then some (.cvb x) else none
   | _, _ => none
  | some (.slice e), some .string, some x => match P.underlying e, P.info? e with
   | some (.int .u8), some i => if i.size = 1 then some (.cvbs x) else none
   | _, _ => none
  | _, _, _ => none
 | .makeInterface t x => match P.underlying t, trOpd gl x with
  | some (.interface _), _ => none
  | some _, some x => some (.mkif t x)
  | _, _ => none
 | .typeAssert x _ t ok => match P.underlying t, trOpd gl x, tzero P t with
  | some (.interface _), _, _ => none
  | some _, some x, some z => some (.tass t ok z x)
  | _, _, _ => none
 | .alloc t => match tzero P t with
  | some z => some (.alloc z.cells)
  | none => none
 | .box _ x => (trOpd gl x).map .box
 | .build t parts => match P.underlying t, tzero P t with
  | some (.struct fields), some z => match trParts gl P fields parts.toList with
   | some ps => if fields.toList.all (fun f => (P.info? f.type).isSome) then some (.build z.cells ps) else none
   | none => none
  | _, _ => none
 | .buildSlice t len parts => match P.underlying t with
  | some (.slice e) => match P.info? e, tzero P e, trRow gl 0 parts.toList with
   | some i, some z, some ps => some (.bslice i.size len z.cells ps)
   | _, _, _ => none
  | _ => none
 | .load t x => match tsz P t, trOpd gl x with
  | some (sz, agg), some x => some (.ld sz agg x)
  | _, _ => none
 | .store t x v => match P.info? t, trOpd gl x, trOpd gl v with
  | some i, some x, some v => some (.st i.size x v)
  | _, _, _ => none
 | .fieldAddr s x f => match P.underlying s, trOpd gl x with
  | some (.struct fields), some x => match fields[f]? with
   | some f => match P.info? f.type with
    | some i => if i.size = 0 then none else some (.fa f.offset x)
    | none => none
   | none => none
  | _, _ => none
 | .field s x f => match P.underlying s, trOpd gl x with
  | some (.struct fields), some x => match fields[f]? with
   | some f => match tsz P f.type with
    | some (sz, agg) => some (.fld f.offset sz agg x)
    | none => none
   | none => none
  | _, _ => none
 | .indexAddr t x i => match P.underlying t, trOpd gl x, trOpd gl i with
  | some (.slice e), some x, some i => match P.info? e with
   | some ei => if ei.size = 0 then none else some (.ixa ei.size x i)
   | none => none
  | some (.array n e), some x, some i => match P.info? e with
   | some ei => if ei.size = 0 then none else some (.ixp n ei.size x i)
   | none => none
  | _, _, _ => none
 | .index t x i => match P.underlying t, trOpd gl x, trOpd gl i with
  | some .string, some x, some i => some (.ixs x i)
  | _, _, _ => none
 | .slice t x lo hi mx => match P.underlying t, trOpd gl x, oneOpt (trOpd gl) lo, oneOpt (trOpd gl) hi, oneOpt (trOpd gl) mx with
  | some .string, some x, some lo, some hi, some none => some (.slct x lo hi)
  | some (.slice e), some x, some lo, some hi, some mx => match P.info? e with
   | some i => if mx.isSome ∧ hi.isNone then none else some (.slc i.size x lo hi mx)
   | none => none
  | _, _, _, _, _ => none
 | .makeSlice t n c => match P.underlying t, trOpd gl n, trOpd gl c with
  | some (.slice e), some n, some c => match P.info? e, tzero P e with
   | some i, some z => some (.mksl i.bytes i.size z.cells n c)
   | _, _ => none
  | _, _, _ => none
 | .nilCheck x => (trOpd gl x).map .nilck
 | .extract x i => (trOpd gl x).map (.ext · i)
 | .makeFunc fn first captured => if first.size = 0 then (trOpds gl captured.toList).map (.mkfn fn) else none
 | .makeMap _ none => some .mkmap
 | .lookup t m k ok => match P.underlying t, trOpd gl m, trOpd gl k with
  | some (.map kt e), some m, some k => match P.underlying kt, tzero P e with
   | some .string, some z => some (.look 0 z m k ok)
   | some (.int _), some z => some (.look 1 z m k ok)
   | some .bool, some z => some (.look 2 z m k ok)
   | _, _ => none
  | _, _, _ => none
 | .mapUpdate t m k v => match P.underlying t, trOpd gl m, trOpd gl k, trOpd gl v with
  | some (.map kt _), some m, some k, some v => match P.underlying kt with
   | some .string => some (.mupd 0 m k v)
   | some (.int _) => some (.mupd 1 m k v)
   | some .bool => some (.mupd 2 m k v)
   | _ => none
  | _, _, _, _ => none
 | .range t x => match P.underlying t with
  | some .string => (trOpd gl x).map .range
  | _ => none
 | .next x true => (trOpd gl x).map .next
 | .call c => match c.callee with
  | .value f => match trOpd gl f, trOpds gl c.args.toList with
   | some f, some args => some (.call f args)
   | _, _ => none
  | .builtin b => trBuiltin gl P b c.argTypes.toList c.args.toList
  | .invoke _ _ => none
 | _ => none
def trGuard (ops : Array Oper) : Option (Nat × Bool) → Option (Option (Nat × Bool))
 | none => some none
 | some (j, w) => match (ops[j]?).bind (·.dst) with
  | some d => some (some (d, w))
  | none => none
def trOps (gl : Globs) (P : Program) (ts : List TypeId) (ops : Array Oper) : List Oper → Option (List AOper)
 | [] => some []
 | o :: r => match trGuard ops o.guard, trOps gl P ts ops r with
  | some g, some r => some ({ dst := o.dst, op := (trOp gl P ts o).getD .bad, guard := g } :: r)
  | _, _ => none
def opdUse : AOpd → List Nat
 | .t n => [n]
 | .c _ => []
def AOper.uses (o : AOper) : List Nat := o.op.opds.flatMap opdUse ++ (match o.guard with | some (g, _) => [g] | none => [])
def insertN (x : Nat) : List Nat → List Nat
 | [] => [x]
 | y :: r => if x < y then x :: y :: r else if x = y then y :: r else y :: insertN x r
def norm (l : List Nat) : List Nat := l.foldl (fun acc x => insertN x acc) []
def afterOf (o : Oper) : List Nat := (o.after.toList.filter (Region.binds .any)).map (·.on)
def forceN {α : Type} (n : Nat) (k : Nat → α) : α := match n with
 | 0 => k 0
 | n + 1 => k (n + 1)
def ancTab : List Oper → Nat → List Nat → List Nat
 | [], _, acc => acc
 | o :: r, i, acc => forceN ((afterOf o).foldl (fun m j => m ||| (1 <<< j ||| acc.getD (i - 1 - j) 0)) 0) fun m => ancTab r (i + 1) (m :: acc)
def backB : List Oper → Nat → Bool
 | [], _ => true
 | o :: r, i => (afterOf o).all (fun j => decide (j < i)) && backB r (i + 1)
def unordered1 (i m : Nat) : Nat → List (Nat × Nat) → List (Nat × Nat)
 | 0, acc => acc
 | j + 1, acc => unordered1 i m j (if m.testBit j then acc else (j, i) :: acc)
def unordered : Nat → List Nat → List (Nat × Nat) → List (Nat × Nat)
 | 0, _, acc => acc
 | _ + 1, [], acc => acc
 | i + 1, m :: r, acc => unordered i r (unordered1 i m i acc)
def apartB (x y : AOper) : Bool := x.dst.all (fun d => !y.uses.contains d && y.dst != some d) && y.dst.all (fun d => !x.uses.contains d)
def lightB (aops : List AOper) (p : Nat × Nat) : Bool := match aops[p.1]?, aops[p.2]? with
 | some x, some y => x.op.cls == 0 && y.op.cls == 0
 | _, _ => false
def apartP (aops : List AOper) (p : Nat × Nat) : Bool := match aops[p.1]?, aops[p.2]? with
 | some x, some y => apartB x y
 | _, _ => false
def drawPairs (ops : Array Oper) (aops : List AOper) : Option (List (Nat × Nat)) :=
 let un := unordered ops.size (ancTab ops.toList 0 []) []
 if backB ops.toList 0 = true ∧ un.all (apartP aops) = true then some (un.filter fun p => !lightB aops p) else none
def trCode (gl : Globs) (P : Program) (ts : List TypeId) : Code → Option ACode
 | .skip => some .skip
 | .region _ ops draw => match trOps gl P ts ops ops.toList with
  | some aops => if draw = true then (drawPairs ops aops).map fun ps => .reg true ps aops else some (.reg false [] aops)
  | none => none
 | .seq a b => match trCode gl P ts a, trCode gl P ts b with
  | some a, some b => some (.seq a b)
  | _, _ => none
 | .cond c a b => match trOpd gl c, trCode gl P ts a, trCode gl P ts b with
  | some c, some a, some b => some (.cond c a b)
  | _, _, _ => none
 | .block id a => (trCode gl P ts a).map (.block id)
 | .loop a => (trCode gl P ts a).map (.loop [])
 | .exit id => some (.exit id)
 | .ret => some .ret
 | _ => none
def AOp.use : AOp → List Nat
 | .mov x | .un _ x | .cvi _ x | .cvs x | .cvsb x | .cvbs x | .cvb x | .mkif _ x | .tass _ _ _ x | .box x | .fa _ x | .fld _ _ _ x | .ld _ _ x | .nilck x | .ext x _ | .len _ x | .range x | .next x => opdUse x
 | .pick a b c | .mupd _ a b c => opdUse a ++ opdUse b ++ opdUse c
 | .bin _ _ _ x y | .ixa _ x y | .ixp _ _ x y | .ixs x y | .st _ x y | .mksl _ _ _ x y | .app _ _ x y | .appz _ _ _ x y | .copy _ x y | .minmax _ x y | .look _ _ x y _ => opdUse x ++ opdUse y
 | .alloc _ | .mkmap | .bad => []
 | .build _ ps => ps.flatMap fun p => opdUse p.2.2
 | .bslice _ _ _ ps => ps.flatMap opdUse
 | .slct x a b => opdUse x ++ (a.map opdUse).getD [] ++ (b.map opdUse).getD []
 | .slc _ x a b c => opdUse x ++ (a.map opdUse).getD [] ++ (b.map opdUse).getD [] ++ (c.map opdUse).getD []
 | .call f xs => opdUse f ++ xs.flatMap opdUse
 | .mkfn _ xs => xs.flatMap opdUse
def minus (a b : List Nat) : List Nat := a.filter fun x => !b.contains x
def opsUse : List AOper → List Nat
 | [] => []
 | o :: r => o.op.use ++ (match o.guard with | some (g, _) => [g] | none => []) ++ minus (opsUse r) o.dst.toList
def ACode.defs : ACode → List Nat
 | .reg _ _ ops => ops.filterMap (·.dst)
 | .seq a b => a.defs ++ b.defs
 | .cond _ a b => a.defs.filter b.defs.contains
 | _ => []
def ACode.use : ACode → List Nat
 | .reg _ _ ops => opsUse ops
 | .seq a b => a.use ++ minus b.use a.defs
 | .cond c a b => opdUse c ++ a.use ++ b.use
 | .block _ a => a.use
 | .loop _ a => a.use
 | _ => []
def ann (rs : List Nat) : ACode → List Nat → ACode
 | .seq a b, out => .seq (ann rs a (norm (b.use ++ minus out b.defs))) (ann rs b out)
 | .cond c a b, out => .cond c (ann rs a out) (ann rs b out)
 | .block id a, out => .block id (ann rs a out)
 | .loop _ a, out => let l := norm (a.use ++ out ++ rs); .loop l (ann rs a l)
 | c, _ => c
def trRes (P : Program) : List ResultVar → Option (List (Nat × Option (Nat × Bool)))
 | [] => some []
 | .tmp t :: r => (trRes P r).map ((t, none) :: ·)
 | .cell t ty :: r => match tsz P ty, trRes P r with
  | some s, some r => some ((t, some s) :: r)
  | _, _ => none
def trFn (gl : Globs) (P : Program) (ts : List TypeId) (fn : Func) : Option AFn :=
 match fn.body with
 | some c => match trCode gl P ts c, trRes P fn.results.toList with
  | some a, some rs => some { np := fn.params.size + fn.nfree, ntmps := fn.ntmps, results := rs, body := ann (rs.map (·.1)) a (norm (rs.map (·.1))) }
  | _, _ => none
 | none => none
end Go.Abs
namespace Go.Abs
structure Loc where
 block : Nat
 sz : Nat
 cap : Nat
abbrev Emb := Nat → Option Loc
inductive Rep (ι : Emb) (S T : Nat → Prop) (w : World) : AVal → Value → Prop where
 | bool (b : Bool) : Rep ι S T w (.bool b) (.bool b)
 | int (k : IntKind) (n : Int) : Rep ι S T w (.int k n) (.int k n)
 | str (l : List UInt8) : Rep ι S T w (.str l) (.string ⟨l.toArray⟩)
 | lit (v : Value) : Rep ι S T w (.lit v) v
 | agg (cs : List AVal) (arr : Array Value) (hl : cs.length = arr.size) (h : ∀ (i : Nat) (c : AVal) (v : Value), cs[i]? = some c → arr[i]? = some v → Rep ι S T w c v) : Rep ι S T w (.agg cs) (.agg arr)
 | tuple (cs : List AVal) (arr : Array Value) (hl : cs.length = arr.size) (h : ∀ (i : Nat) (c : AVal) (v : Value), cs[i]? = some c → arr[i]? = some v → Rep ι S T w c v) : Rep ι S T w (.tuple cs) (.tuple arr)
 | iface (t : TypeId) (x : AVal) (v : Value) (h : Rep ι S T w x v) : Rep ι S T w (.iface t x) (.iface t v)
 | func (fn : Fn) (cs : List AVal) (arr : Array Value) (hl : cs.length = arr.size) (h : ∀ (i : Nat) (c : AVal) (v : Value), cs[i]? = some c → arr[i]? = some v → Rep ι S T w c v) : Rep ι S T w (.func fn cs) (.func fn #[] arr)
 | view (sz : Nat) (es : List AVal) (clip tmp : Bool) (b o c : Nat) (sp : Option Nat) (vs : Nat → Nat → Value) (hsp : sp = none ∨ c = 0) (hc : es.length ≤ c) (hclip : clip = true → c = es.length)
   (hS : ∀ (i : Nat) (e : AVal), es[i]? = some e → (if tmp = true then T b ∨ S b else S b)) (hsz : ∀ (i : Nat) (e : AVal), es[i]? = some e → e.cells.length = sz) (hcl : ∀ (i : Nat) (e : AVal), es[i]? = some e → (if tmp = true then e.closedT = true else e.closed = true))
   (hcell : ∀ (i : Nat) (e : AVal) (j : Nat) (x : AVal), es[i]? = some e → e.cells[j]? = some x → w.cell? ⟨b, o + i * sz + j, none⟩ = some (vs i j))
   (h : ∀ (i : Nat) (e : AVal) (j : Nat) (x : AVal), es[i]? = some e → e.cells[j]? = some x → Rep ι S T w x (vs i j)) : Rep ι S T w (.view sz es clip tmp) (.slice (some ⟨b, o, sp⟩) es.length c)
 | rptr (cs : List AVal) (tmp : Bool) (b o : Nat) (vs : Nat → Value)
   (hS : ∀ (j : Nat) (x : AVal), cs[j]? = some x → (if tmp = true then T b ∨ S b else S b)) (hcell : ∀ (j : Nat) (x : AVal), cs[j]? = some x → w.cell? ⟨b, o + j, none⟩ = some (vs j))
   (h : ∀ (j : Nat) (x : AVal), cs[j]? = some x → Rep ι S T w x (vs j)) : Rep ι S T w (.rptr cs tmp) (.pointer (some ⟨b, o, none⟩))
 | own (id sz off len : Nat) (clip : Bool) (L : Loc) (c o : Nat) (hL : ι id = some L) (hsz : L.sz = sz) (hc : len ≤ c) (hcap : off + c ≤ L.cap) (hclip : clip = true → c = len) (hnc : clip = false → off + c = L.cap) (ho : 0 < c → o = off * sz) :
   Rep ι S T w (.own id sz off len clip) (.slice (some ⟨L.block, o, none⟩) len c)
 | ptr (id off : Nat) (L : Loc) (hL : ι id = some L) : Rep ι S T w (.ptr id off) (.pointer (some ⟨L.block, off, none⟩))
 | eptr (id i off : Nat) (L : Loc) (hL : ι id = some L) : Rep ι S T w (.eptr id i off) (.pointer (some ⟨L.block, i * L.sz + off, none⟩))
 | mapr (id : Nat) (L : Loc) (hL : ι id = some L) : Rep ι S T w (.mapr id) (.map (some L.block))
 | junk (v : Value) : Rep ι S T w .junk v
theorem cell_congr {w w' : World} {b : Nat} (h : w'.heap[b]? = w.heap[b]?) (o : Nat) (sp : Option Nat) : w'.cell? ⟨b, o, sp⟩ = w.cell? ⟨b, o, sp⟩ := by
 simp [World.cell?, h]
theorem Rep.mono {ι ι' : Emb} {S S' T T' : Nat → Prop} {w w' : World} (hι : ∀ id L, ι id = some L → ι' id = some L) (hS : ∀ b, S b → S' b) (hT : ∀ b, T b → T' b)
  (hw : ∀ b, S b ∨ T b → w'.heap[b]? = w.heap[b]?) {x : AVal} {v : Value} (h : Rep ι S T w x v) : Rep ι' S' T' w' x v := by
 induction h with
 | bool b => exact .bool b
 | int k n => exact .int k n
 | str l => exact .str l
 | lit v => exact .lit v
 | agg cs arr hl _ ih => exact .agg cs arr hl ih
 | tuple cs arr hl _ ih => exact .tuple cs arr hl ih
 | iface t x v _ ih => exact .iface t x v ih
 | func fn cs arr hl _ ih => exact .func fn cs arr hl ih
 | view sz es clip tmp b o c sp vs hsp hc hclip hS' hsz hcl hcell _ ih =>
  refine .view sz es clip tmp b o c sp vs hsp hc hclip (fun i e he => ?_) hsz hcl (fun i e j x he hx => ?_) ih
  ·have := hS' i e he
   cases tmp with
   | false => exact hS _ this
   | true => exact this.elim (fun h => .inl (hT _ h)) (fun h => .inr (hS _ h))
  ·rw [← hcell i e j x he hx]
   refine cell_congr (hw b ?_) _ _
   have := hS' i e he
   cases tmp with
   | false => exact .inl this
   | true => exact this.elim .inr .inl
 | rptr cs tmp b o vs hS' hcell _ ih =>
  refine .rptr cs tmp b o vs (fun i e => ?_) (fun j x hx => ?_) ih
  ·intro he
   have := hS' i e he
   cases tmp with
   | false => exact hS _ this
   | true => exact this.elim (fun h => .inl (hT _ h)) (fun h => .inr (hS _ h))
  ·rw [← hcell j x hx]
   refine cell_congr (hw b ?_) _ _
   have := hS' j x hx
   cases tmp with
   | false => exact .inl this
   | true => exact this.elim .inr .inl
 | own id sz off len clip L c o hL hsz hc hcap hclip hnc ho => exact .own id sz off len clip L c o (hι _ _ hL) hsz hc hcap hclip hnc ho
 | ptr id off L hL => exact .ptr id off L (hι _ _ hL)
 | eptr id i off L hL => exact .eptr id i off L (hι _ _ hL)
 | mapr id L hL => exact .mapr id L (hι _ _ hL)
 | junk v => exact .junk v
theorem AVal.flat_T {x : AVal} (h : x.flat = true) : x.flatT = true := by
 cases x <;> first | rfl | exact h
theorem AVal.flatT_leaf {x : AVal} (h : x.flatT = true) : x.leaf = true := by
 cases x <;> simp_all [AVal.flatT, AVal.flat, AVal.leaf]
theorem Rep.oneCell {ι : Emb} {S T : Nat → Prop} {w : World} {x : AVal} {v : Value} (h : Rep ι S T w x v) (hx : x.leaf = true) : v.oneCell' = true := by
 cases h <;> simp_all [AVal.leaf, Value.oneCell']
theorem AVal.flat_leaf {x : AVal} (h : x.flat = true) : x.leaf = true := by
 cases x <;> simp_all [AVal.flat, AVal.leaf]
theorem AVal.cells_of_leaf {x : AVal} (h : x.leaf = true) : x.cells = [x] := by
 cases x <;> simp_all [AVal.leaf, AVal.cells]
theorem Rep.cells {ι : Emb} {S T : Nat → Prop} {w : World} {x : AVal} {v : Value} (h : Rep ι S T w x v) (hx : ∀ y, x = .lit y → y.oneCell' = true) (hj : x ≠ .junk) :
  x.cells.length = v.cells.size ∧ ∀ (i : Nat) (c : AVal) (u : Value), x.cells[i]? = some c → v.cells[i]? = some u → Rep ι S T w c u := by
 have one : ∀ (y : AVal) (u : Value), y.cells = [y] → u.cells = #[u] → Rep ι S T w y u → y.cells.length = u.cells.size ∧ ∀ (i : Nat) (c : AVal) (u' : Value), y.cells[i]? = some c → u.cells[i]? = some u' → Rep ι S T w c u' := by
  intro y u hy hu hr
  refine ⟨by simp [hy, hu], fun i c u' hc hu' => ?_⟩
  rw [hy] at hc
  rw [hu] at hu'
  cases i with
  | zero => simp at hc hu'; subst hc; subst hu'; exact hr
  | succ i => simp at hc
 cases h with
 | agg cs arr hl h => exact ⟨by simpa [AVal.cells, Value.cells] using hl, by simpa [AVal.cells, Value.cells] using h⟩
 | junk v => exact absurd rfl hj
 | lit v =>
  have := hx v rfl
  refine one _ _ rfl ?_ (.lit v)
  cases v <;> simp_all [Value.cells, Value.oneCell']
 | bool b => exact one _ _ rfl rfl (.bool b)
 | int k n => exact one _ _ rfl rfl (.int k n)
 | str l => exact one _ _ rfl rfl (.str l)
 | tuple cs arr hl h => exact one _ _ rfl rfl (.tuple cs arr hl h)
 | iface t x v h => exact one _ _ rfl rfl (.iface t x v h)
 | func fn cs arr hl h => exact one _ _ rfl rfl (.func fn cs arr hl h)
 | view sz es clip tmp b o c sp vs hsp hc hclip hS' hsz hcl hcell h => exact one _ _ rfl rfl (.view sz es clip tmp b o c sp vs hsp hc hclip hS' hsz hcl hcell h)
 | rptr cs tmp b o vs hS' hcell h => exact one _ _ rfl rfl (.rptr cs tmp b o vs hS' hcell h)
 | own id sz off len clip L c o hL hsz hc hcap hclip hnc ho => exact one _ _ rfl rfl (.own id sz off len clip L c o hL hsz hc hcap hclip hnc ho)
 | ptr id off L hL => exact one _ _ rfl rfl (.ptr id off L hL)
 | eptr id i off L hL => exact one _ _ rfl rfl (.eptr id i off L hL)
 | mapr id L hL => exact one _ _ rfl rfl (.mapr id L hL)
def NodeRep (ι : Emb) (S T : Nat → Prop) (w : World) (L : Loc) : Node → Prop
 | .var cs => ∃ arr ty, w.heap[L.block]? = some (.cells arr ty (0, 0)) ∧ cs.length = arr.size ∧ ∀ (i : Nat) (c : AVal) (v : Value), cs[i]? = some c → arr[i]? = some v → Rep ι S T w c v
 | .row es sz => L.sz = sz ∧ 0 < sz ∧ es.length ≤ L.cap ∧ L.cap ≤ maxLen ∧ ∃ arr ty, w.heap[L.block]? = some (.cells arr ty (0, 0)) ∧ arr.size = L.cap * sz ∧
   ∀ (i : Nat) (e : AVal), es[i]? = some e → e.cells.length = sz ∧ e.closed = true ∧ ∀ (j : Nat) (x : AVal), e.cells[j]? = some x → ∃ v, arr[i * sz + j]? = some v ∧ Rep ι S T w x v
 | .map es => ∃ mes clock, w.heap[L.block]? = some (.map mes clock) ∧ es.length = mes.size ∧ ∀ (i : Nat) (k v : AVal), es[i]? = some (k, v) → ∃ me, mes[i]? = some me ∧ Rep ι S T w k me.key ∧ Rep ι S T w v me.val ∧ v.flat = true ∧ k.flat = true
 | .iter l pos => w.heap[L.block]? = some (.stringIter ⟨l.toArray⟩ pos)
theorem NodeRep.mono {ι ι' : Emb} {S S' T T' : Nat → Prop} {w w' : World} {L : Loc} {n : Node} (hι : ∀ id L, ι id = some L → ι' id = some L) (hS : ∀ b, S b → S' b) (hT : ∀ b, T b → T' b)
  (hw : ∀ b, S b ∨ T b → w'.heap[b]? = w.heap[b]?) (hb : w'.heap[L.block]? = w.heap[L.block]?) (h : NodeRep ι S T w L n) : NodeRep ι' S' T' w' L n := by
 have rm : ∀ {x v}, Rep ι S T w x v → Rep ι' S' T' w' x v := fun h => h.mono hι hS hT hw
 cases n with
 | var cs =>
  obtain ⟨arr, ty, h1, h2, h3⟩ := h
  exact ⟨arr, ty, hb ▸ h1, h2, fun i c v hc hv => rm (h3 i c v hc hv)⟩
 | row es sz =>
  obtain ⟨h0, h1, h2, h3, arr, ty, h4, h5, h6⟩ := h
  refine ⟨h0, h1, h2, h3, arr, ty, hb ▸ h4, h5, fun i e he => ?_⟩
  obtain ⟨a, b, c⟩ := h6 i e he
  refine ⟨a, b, fun j x hx => ?_⟩
  obtain ⟨v, hv, hr⟩ := c j x hx
  exact ⟨v, hv, rm hr⟩
 | map es =>
  obtain ⟨mes, clock, h1, h2, h3⟩ := h
  refine ⟨mes, clock, hb ▸ h1, h2, fun i k v hv => ?_⟩
  obtain ⟨me, a, b, c, d⟩ := h3 i k v hv
  exact ⟨me, a, rm b, rm c, d⟩
 | iter l pos => exact hb.trans h
def Free := Nat → Prop
def Free.above (n : Nat) : Free := fun id => n ≤ id
def Free.but (F : Free) (nid : Nat) : Free := fun id => F id ∧ id ≠ nid
def Free.buts (F : Free) (nid : Nat) : Free := fun id => F id ∧ ¬ (nid ≤ id ∧ id < nid + stride)
def Owned (ι : Emb) (h : Heap) (b : Nat) : Prop := ∃ e ∈ h, ∃ L, ι e.1 = some L ∧ L.block = b
structure Inv (ι : Emb) (S T : Nat → Prop) (h : Heap) (w : World) (next : Free) : Prop where
 nodup : (h.map (·.1)).Nodup
 node : ∀ id n, (id, n) ∈ h → ∃ L, ι id = some L ∧ ¬ S L.block ∧ ¬ T L.block ∧ NodeRep ι S T w L n
 inj : ∀ id n id' n' L L', (id, n) ∈ h → (id', n') ∈ h → ι id = some L → ι id' = some L' → L.block = L'.block → id = id'
 fresh : ∀ id, next id → ι id = none
 s_lt : ∀ b, S b → b < w.heap.size
 t_lt : ∀ b, T b → b < w.heap.size
theorem Heap.get_mem {h : Heap} {id : Nat} {n : Node} (hg : h.get id = some n) : (id, n) ∈ h := by
 induction h with
 | nil => simp [Heap.get] at hg
 | cons e r ih =>
  obtain ⟨k, m⟩ := e
  simp only [Heap.get] at hg
  split at hg
  ·rename_i hk; subst hk; simp at hg; subst hg; simp
  ·exact List.mem_cons_of_mem _ (ih hg)
theorem Inv.get {ι : Emb} {S T : Nat → Prop} {h : Heap} {w : World} {next : Free} (hi : Inv ι S T h w next) {id : Nat} {n : Node} (hg : h.get id = some n) :
  ∃ L, ι id = some L ∧ ¬ S L.block ∧ ¬ T L.block ∧ NodeRep ι S T w L n := hi.node id n (Heap.get_mem hg)
structure Step (ι : Emb) (S T : Nat → Prop) (h : Heap) (w : World) (ι' : Emb) (S' : Nat → Prop) (h' : Heap) (w' : World) : Prop where
 iota : ∀ id L, ι id = some L → ι' id = some L
 s : ∀ b, S b → S' b
 frame : ∀ b, b < w.heap.size → ¬ Owned ι h b → w'.heap[b]? = w.heap[b]?
 size : w.heap.size ≤ w'.heap.size
 own : ∀ b, Owned ι' h' b → w.heap.size ≤ b ∨ Owned ι h b
 sown : ∀ b, S' b → S b ∨ w.heap.size ≤ b ∨ Owned ι h b
 os : w'.os = w.os
 tape : w'.tape = w.tape
 output : w'.output = w.output
theorem Step.refl (ι : Emb) (S T : Nat → Prop) (h : Heap) (w : World) : Step ι S T h w ι S h w :=
 ⟨fun _ _ h => h, fun _ h => h, fun _ _ _ => rfl, Nat.le_refl _, fun _ h => .inr h, fun _ h => .inl h, rfl, rfl, rfl⟩
theorem Step.trans {ι ι' ι'' : Emb} {S S' S'' T : Nat → Prop} {h h' h'' : Heap} {w w' w'' : World} (a : Step ι S T h w ι' S' h' w') (b : Step ι' S' T h' w' ι'' S'' h'' w'') : Step ι S T h w ι'' S'' h'' w'' := by
 refine ⟨fun id L h => b.iota _ _ (a.iota _ _ h), fun x h => b.s _ (a.s _ h), fun x hx hn => ?_, Nat.le_trans a.size b.size, fun x hx => ?_, fun x hx => ?_, b.os.trans a.os, b.tape.trans a.tape, b.output.trans a.output⟩
 ·rw [b.frame x (Nat.lt_of_lt_of_le hx a.size) (fun ho => ?_), a.frame x hx hn]
  rcases a.own x ho with h | h
  ·omega
  ·exact hn h
 ·rcases b.own x hx with h | h
  ·exact .inl (Nat.le_trans a.size h)
  ·exact a.own x h
 ·rcases b.sown x hx with h | h | h
  ·exact a.sown x h
  ·exact .inr (.inl (Nat.le_trans a.size h))
  ·rcases a.own x h with h | h
   ·exact .inr (.inl h)
   ·exact .inr (.inr h)
theorem Inv.stable {ι ι' : Emb} {S S' T : Nat → Prop} {h h' : Heap} {w w' : World} {next : Free} (hi : Inv ι S T h w next) (st : Step ι S T h w ι' S' h' w') : ∀ b, S b ∨ T b → w'.heap[b]? = w.heap[b]? := by
 intro b hb
 refine st.frame b (hb.elim (hi.s_lt b) (hi.t_lt b)) ?_
 rintro ⟨e, he, L, hL, rfl⟩
 obtain ⟨L', hL', h1, h2, _⟩ := hi.node e.1 e.2 he
 rw [hL] at hL'
 cases hL'
 exact hb.elim h1 h2
theorem Rep.step {ι ι' : Emb} {S S' T : Nat → Prop} {h h' : Heap} {w w' : World} {next : Free} (hi : Inv ι S T h w next) (st : Step ι S T h w ι' S' h' w') {x : AVal} {v : Value} (hr : Rep ι S T w x v) : Rep ι' S' T w' x v :=
 hr.mono st.iota st.s (fun _ h => h) (hi.stable st)
section
variable {ι : Emb} {S T : Nat → Prop} {w : World} {v : Value}
theorem Rep.view_inv {sz : Nat} {es : List AVal} {clip tmp : Bool} (h : Rep ι S T w (.view sz es clip tmp) v) : ∃ (b o c : Nat) (sp : Option Nat) (vs : Nat → Nat → Value), v = .slice (some ⟨b, o, sp⟩) es.length c ∧ (sp = none ∨ c = 0) ∧ es.length ≤ c ∧ (clip = true → c = es.length) ∧
  (∀ (i : Nat) (e : AVal), es[i]? = some e → (if tmp = true then T b ∨ S b else S b)) ∧ (∀ (i : Nat) (e : AVal), es[i]? = some e → e.cells.length = sz) ∧ (∀ (i : Nat) (e : AVal), es[i]? = some e → (if tmp = true then e.closedT = true else e.closed = true)) ∧
  (∀ (i : Nat) (e : AVal) (j : Nat) (x : AVal), es[i]? = some e → e.cells[j]? = some x → w.cell? ⟨b, o + i * sz + j, none⟩ = some (vs i j)) ∧
  (∀ (i : Nat) (e : AVal) (j : Nat) (x : AVal), es[i]? = some e → e.cells[j]? = some x → Rep ι S T w x (vs i j)) := by
 cases h with
 | view _ _ _ _ b o c sp vs hsp hc hclip hS hsz hcl hcell h => exact ⟨b, o, c, sp, vs, rfl, hsp, hc, hclip, hS, hsz, hcl, hcell, h⟩
theorem Rep.rptr_inv {cs : List AVal} {tmp : Bool} (h : Rep ι S T w (.rptr cs tmp) v) : ∃ (b o : Nat) (vs : Nat → Value), v = .pointer (some ⟨b, o, none⟩) ∧ (∀ (j : Nat) (x : AVal), cs[j]? = some x → (if tmp = true then T b ∨ S b else S b)) ∧
  (∀ (j : Nat) (x : AVal), cs[j]? = some x → w.cell? ⟨b, o + j, none⟩ = some (vs j)) ∧ (∀ (j : Nat) (x : AVal), cs[j]? = some x → Rep ι S T w x (vs j)) := by
 cases h with
 | rptr _ _ b o vs hS hcell h => exact ⟨b, o, vs, rfl, hS, hcell, h⟩
theorem Rep.own_inv {id sz off len : Nat} {clip : Bool} (h : Rep ι S T w (.own id sz off len clip) v) : ∃ L c o, v = .slice (some ⟨L.block, o, none⟩) len c ∧ ι id = some L ∧ L.sz = sz ∧ len ≤ c ∧ off + c ≤ L.cap ∧ (clip = true → c = len) ∧ (clip = false → off + c = L.cap) ∧ (0 < c → o = off * sz) := by
 cases h with
 | own _ _ _ _ _ L c o hL hsz hc hcap hclip hnc ho => exact ⟨L, c, o, rfl, hL, hsz, hc, hcap, hclip, hnc, ho⟩
theorem Rep.ptr_inv {id off : Nat} (h : Rep ι S T w (.ptr id off) v) : ∃ L, v = .pointer (some ⟨L.block, off, none⟩) ∧ ι id = some L := by
 cases h with
 | ptr _ _ L hL => exact ⟨L, rfl, hL⟩
theorem Rep.eptr_inv {id i off : Nat} (h : Rep ι S T w (.eptr id i off) v) : ∃ L, v = .pointer (some ⟨L.block, i * L.sz + off, none⟩) ∧ ι id = some L := by
 cases h with
 | eptr _ _ _ L hL => exact ⟨L, rfl, hL⟩
theorem Rep.mapr_inv {id : Nat} (h : Rep ι S T w (.mapr id) v) : ∃ L, v = .map (some L.block) ∧ ι id = some L := by
 cases h with
 | mapr _ L hL => exact ⟨L, rfl, hL⟩
theorem Rep.agg_inv {cs : List AVal} (h : Rep ι S T w (.agg cs) v) : ∃ arr, v = .agg arr ∧ cs.length = arr.size ∧ ∀ (i : Nat) (c : AVal) (v : Value), cs[i]? = some c → arr[i]? = some v → Rep ι S T w c v := by
 cases h with
 | agg _ arr hl h => exact ⟨arr, rfl, hl, h⟩
theorem Rep.tuple_inv {cs : List AVal} (h : Rep ι S T w (.tuple cs) v) : ∃ arr, v = .tuple arr ∧ cs.length = arr.size ∧ ∀ (i : Nat) (c : AVal) (v : Value), cs[i]? = some c → arr[i]? = some v → Rep ι S T w c v := by
 cases h with
 | tuple _ arr hl h => exact ⟨arr, rfl, hl, h⟩
theorem Rep.func_inv {fn : Fn} {cs : List AVal} (h : Rep ι S T w (.func fn cs) v) : ∃ arr, v = .func fn #[] arr ∧ cs.length = arr.size ∧ ∀ (i : Nat) (c : AVal) (v : Value), cs[i]? = some c → arr[i]? = some v → Rep ι S T w c v := by
 cases h with
 | func _ _ arr hl h => exact ⟨arr, rfl, hl, h⟩
theorem Rep.iface_inv {t : TypeId} {x : AVal} (h : Rep ι S T w (.iface t x) v) : ∃ u, v = .iface t u ∧ Rep ι S T w x u := by
 cases h with
 | iface _ _ u h => exact ⟨u, rfl, h⟩
theorem Rep.int_inv {k : IntKind} {n : Int} (h : Rep ι S T w (.int k n) v) : v = .int k n := by cases h; rfl
theorem Rep.bool_inv {b : Bool} (h : Rep ι S T w (.bool b) v) : v = .bool b := by cases h; rfl
theorem Rep.str_inv {l : List UInt8} (h : Rep ι S T w (.str l) v) : v = .string ⟨l.toArray⟩ := by cases h; rfl
theorem Rep.lit_inv {u : Value} (h : Rep ι S T w (.lit u) v) : v = u := by cases h; rfl
end
end Go.Abs
namespace Go.Abs
def GlobOK (gl : Globs) (S : Nat → Prop) (w : World) : Prop := ∀ g v, gl g = some v → ∀ ι T, Rep ι S T w v (.pointer (some ⟨g, 0, none⟩))
theorem GlobOK.mono {gl : Globs} {S S' : Nat → Prop} {w w' : World} (h : GlobOK gl S w) (hS : ∀ b, S b → S' b) (hw : ∀ b, S b → w'.heap[b]? = w.heap[b]?) : GlobOK gl S' w' :=
 fun g v hg ι T => (h g v hg ι fun _ => False).mono (fun _ _ h => h) hS (fun _ h => h.elim) fun b hb => hb.elim (hw b) False.elim
def EnvRep (gl : Globs) (ι : Emb) (S T : Nat → Prop) (w : World) (env : List AVal) (tmps : Array Value) : Prop :=
 (GlobOK gl S w ∧ env.length = tmps.size) ∧ ∀ (i : Nat) (c : AVal) (v : Value), env[i]? = some c → tmps[i]? = some v → Rep ι S T w c v
section
variable {gl : Globs} {ι : Emb} {S T : Nat → Prop} {w : World}
theorem leafConst_rep {v : Value} {c : AVal} (h : leafConst v = some c) : Rep ι S T w c v := by
 unfold leafConst at h
 split at h <;> (try (simp at h; done)) <;> (try (simp at h; subst h))
 ·exact .bool _
 ·exact .int _ _
 ·rename_i s
  have := Rep.str (ι := ι) (S := S) (T := T) (w := w) s.data.toList
  simpa using this
 ·exact .lit _
 ·exact .lit _
 ·exact .lit _
 ·exact .lit _
 ·exact .lit _
 ·rename_i f first captured
  split at h
  ·rename_i hh
   simp at h
   subst h
   have h1 : first = #[] := Array.eq_empty_of_size_eq_zero hh.1
   have h2 : captured = #[] := Array.eq_empty_of_size_eq_zero hh.2
   subst h1; subst h2
   exact .func _ _ _ rfl (by simp)
  ·simp at h
theorem leafConsts_rep {l : List Value} {cs : List AVal} (h : leafConsts l = some cs) : cs.length = l.length ∧ ∀ (i : Nat) (c : AVal) (v : Value), cs[i]? = some c → l[i]? = some v → leafConst v = some c := by
 induction l generalizing cs with
 | nil => simp [leafConsts] at h; subst h; simp
 | cons x r ih =>
  simp only [leafConsts] at h
  split at h <;> simp at h
  rename_i c cs' h1 h2
  subst h
  obtain ⟨hl, hh⟩ := ih h2
  refine ⟨by simp [hl], fun i c' v hc hv => ?_⟩
  cases i with
  | zero => simp at hc hv; subst hc; subst hv; exact h1
  | succ i => simp at hc hv; exact hh i c' v hc hv
theorem constOf_rep {v : Value} {c : AVal} (h : constOf v = some c) : Rep ι S T w c v := by
 unfold constOf at h
 split at h
 ·rename_i cs
  cases hl : leafConsts cs.toList with
  | none => simp [hl] at h
  | some l =>
   simp [hl] at h
   subst h
   obtain ⟨h1, h2⟩ := leafConsts_rep hl
   exact .agg _ _ (by simpa using h1) fun i c v hc hv => leafConst_rep (h2 i c v hc (by simpa using hv))
 ·exact leafConst_rep h
theorem EnvRep.getD {env : List AVal} {tmps : Array Value} (h : EnvRep gl ι S T w env tmps) (n : Nat) : Rep ι S T w (env.getD n .junk) (tmps.getD n undef) := by
 by_cases hn : n < env.length
 ·have hn' : n < tmps.size := h.1.2 ▸ hn
  have e1 : env[n]? = some (env.getD n .junk) := by simp [List.getD, hn]
  have e2 : tmps[n]? = some (tmps.getD n undef) := by simp [Array.getD, hn']
  exact h.2 n _ _ e1 e2
 ·have : env.getD n .junk = .junk := by
   have := List.getElem?_eq_none (l := env) (i := n) (by omega)
   simp [List.getD, this]
  rw [this]
  exact .junk _
theorem opd_rep {env : List AVal} {a : Act} (h : EnvRep gl ι S T w env a.tmps) {x : Operand} {y : AOpd} (hx : trOpd gl x = some y) : Rep ι S T w (y.ev env) (a.eval x) := by
 unfold trOpd at hx
 split at hx
 ·simp at hx; subst hx; exact h.getD _
 ·rename_i v
  cases hc : constOf v with
  | none => simp [hc] at hx
  | some c => simp [hc] at hx; subst hx; exact constOf_rep hc
 ·simp at hx; subst hx; exact .func _ _ _ rfl (by simp)
 ·obtain ⟨v, hv, rfl⟩ : ∃ v, gl _ = some v ∧ AOpd.c v = y := by
   rename_i g
   cases hg : gl g with
   | none => simp [hg] at hx
   | some v => exact ⟨v, hg, by simpa [hg] using hx⟩
  exact h.1.1 _ v hv ι T
theorem opds_rep {env : List AVal} {a : Act} (h : EnvRep gl ι S T w env a.tmps) {xs : List Operand} {ys : List AOpd} (hx : trOpds gl xs = some ys) :
  ys.length = xs.length ∧ ∀ (i : Nat) (c : AVal) (v : Value), (ys.map (·.ev env))[i]? = some c → (xs.map a.eval)[i]? = some v → Rep ι S T w c v := by
 induction xs generalizing ys with
 | nil => simp [trOpds] at hx; subst hx; simp
 | cons x r ih =>
  simp only [trOpds] at hx
  split at hx <;> simp at hx
  rename_i c cs' h1 h2
  subst hx
  obtain ⟨hl, hh⟩ := ih h2
  refine ⟨by simp [hl], fun i c' v hc hv => ?_⟩
  cases i with
  | zero => simp at hc hv; subst hc; subst hv; exact opd_rep h h1
  | succ i => simp only [List.map_cons, List.getElem?_cons_succ] at hc hv; exact hh i c' v hc hv
end
section
variable {gl : Globs} {P : Program} {ι : Emb} {S T : Nat → Prop} {w : World}
def Pure (P : Program) (ι : Emb) (S T : Nat → Prop) (w : World) (s : Sem Value) (r : AVal) : Prop := ∃ v, s.run P w = .ok v w ∧ Rep ι S T w r v
theorem Pure.int {s : Sem Value} {k : IntKind} {n : Int} (h : s.run P w = .ok (.int k n) w) : Pure P ι S T w s (.int k n) := ⟨_, h, .int _ _⟩
theorem Pure.bool {s : Sem Value} {b : Bool} (h : s.run P w = .ok (.bool b) w) : Pure P ι S T w s (.bool b) := ⟨_, h, .bool _⟩
theorem Pure.str {s : Sem Value} {l : List UInt8} (h : s.run P w = .ok (.string ⟨l.toArray⟩) w) : Pure P ι S T w s (.str l) := ⟨_, h, .str _⟩
theorem intOp_sound {op : BinOp} {k k' : IntKind} {a b : Int} {t : TypeId} {r : AVal} (h : intOp op k a k' b = some r) : Pure P ι S T w (binOp op t (.int k a) (.int k' b)) r := by
 unfold intOp at h
 split at h
 ·split at h <;> simp at h
  subst h
  rename_i hb
  exact .int (by simp [binOp, Op.shift, hb])
 ·split at h <;> simp at h
  subst h
  rename_i hb
  exact .int (by simp [binOp, Op.shift, hb])
 ·split at h
  ·rename_i hk
   subst hk
   cases op <;> simp only [reduceCtorEq, Option.some.injEq] at h <;> (try contradiction)
   case quo => split at h <;> simp at h; subst h; rename_i hb; exact .int (by simp [binOp, Op.intDiv, hb])
   case rem => split at h <;> simp at h; subst h; rename_i hb; exact .int (by simp [binOp, Op.intDiv, hb])
   all_goals subst h
   all_goals first
    | exact .int (by simp [binOp, Op.intArith, Op.intBits])
    | exact .bool (by simp [binOp, Op.intCmp])
  ·simp at h
theorem toList_loop (s : ByteArray) : ∀ (n i : Nat) (r : List UInt8), s.size - i = n → ByteArray.toList.loop s i r = r.reverse ++ s.data.toList.drop i := by
 intro n
 induction n with
 | zero =>
  intro i r h
  unfold ByteArray.toList.loop
  rw [if_neg (by omega)]
  have : s.data.toList.drop i = [] := List.drop_eq_nil_of_le (by have : s.data.size = s.size := rfl; simp; omega)
  simp [this]
 | succ n ih =>
  intro i r h
  unfold ByteArray.toList.loop
  have hi : i < s.size := by omega
  rw [if_pos hi, ih (i + 1) _ (by omega)]
  have hd : i < s.data.toList.length := by have : s.data.size = s.size := rfl; simp; omega
  rw [List.drop_eq_getElem_cons hd]
  have : s.get! i = s.data.toList[i] := by
   have hi' : i < s.data.size := hi
   show s.data[i]! = _
   rw [getElem!_pos s.data i hi']
   simp
  simp [this]
theorem toList_data (s : ByteArray) : s.toList = s.data.toList := by
 have := toList_loop s _ 0 [] rfl
 simpa [ByteArray.toList] using this
theorem append_data (x y : ByteArray) : x ++ y = ⟨(x.data.toList ++ y.data.toList).toArray⟩ := by
 ext1
 simp [ByteArray.data_append]
theorem strOp_sound {op : BinOp} {x y : List UInt8} {t : TypeId} {r : AVal} (h : strOp op x y = some r) : Pure P ι S T w (binOp op t (.string ⟨x.toArray⟩) (.string ⟨y.toArray⟩)) r := by
 unfold strOp at h
 split at h
 ·split at h <;> simp at h
  subst h
  rename_i hb
  have hs : ¬ (((x.length + y.length : Nat) : Int) > IntKind.i64.max) := by simp [IntKind.max, IntKind.signed, IntKind.bits, strMax] at *; omega
  refine .str ?_
  have e : (⟨x.toArray⟩ ++ ⟨y.toArray⟩ : ByteArray) = ⟨(x ++ y).toArray⟩ := by rw [append_data]
  simp only [binOp, Op.stringOp, ByteArray.size, List.size_toArray]
  rw [if_neg hs, e]
  rfl
 all_goals simp at h
 all_goals subst h
 all_goals exact .bool (by simp [binOp, Op.stringOp, toList_data])
theorem run_underlying' {t : TypeId} {d : TypeDesc} (h : P.underlying t = some d) : (underlying t).run P w = .ok d w := by simp [underlying, h]
theorem eqK_bool {ts : List TypeId} {t : TypeId} (h : eqK P ts t = .bool) : P.underlying t = some .bool := by
 unfold eqK at h; split at h <;> first | assumption | contradiction | (split at h <;> contradiction)
theorem eqK_slice {ts : List TypeId} {t : TypeId} (h : eqK P ts t = .slice) : ∃ e, P.underlying t = some (.slice e) := by
 unfold eqK at h; split at h <;> first | exact ⟨_, by assumption⟩ | contradiction | (split at h <;> contradiction)
theorem eqK_ptr {ts : List TypeId} {t : TypeId} (h : eqK P ts t = .ptr) : ∃ e, P.underlying t = some (.pointer e) := by
 unfold eqK at h; split at h <;> first | exact ⟨_, by assumption⟩ | contradiction | (split at h <;> contradiction)
theorem eqK_iface {ts us : List TypeId} {t : TypeId} (h : eqK P ts t = .iface us) : (∃ ms, P.underlying t = some (.interface ms)) ∧ ∀ u, u ∈ us → goodErr P u = true := by
 unfold eqK at h; split at h <;> first | contradiction | (split at h <;> contradiction) | skip
 rename_i ms hm
 simp at h
 subst h
 exact ⟨⟨ms, hm⟩, fun u hu => (List.mem_filter.1 hu).2⟩
theorem run_und {t : TypeId} {d : TypeDesc} (h : P.underlying t = some d) : (underlying t).run P w = .ok d w := by simp [underlying, h]
theorem str_equal (d : Nat) {t : TypeId} (u : P.underlying t = some .string) (a c : ByteArray) : (Op.equalIn (d + 1) t (.string a) (.string c)).run P w = .ok (a == c) w := by
 simp [Op.equalIn, run_und u]
theorem str_part {t : TypeId} (u : P.underlying t = some .string) {cs : Array Value} {off : Nat} {v : Value} (h : cs[off]? = some v) : (Go.part t cs off).run P w = .ok v w := by
 simp [Go.part, isAgg, underlying, u, h]
structure PairT (P : Program) (t : TypeId) (f g : Field) : Prop where
 hu : P.underlying t = some (.struct #[f, g])
 m1 : f.name ≠ "_"
 m2 : g.name ≠ "_"
 o1 : f.offset = 0
 o2 : g.offset = 1
 hs : P.stoodInHeld t = false
 u1 : P.underlying f.type = some .string
 u2 : P.underlying g.type = some .string
theorem eqK_pair {ts : List TypeId} {t : TypeId} (h : eqK P ts t = .pair) : ∃ f g, PairT P t f g := by
 unfold eqK at h
 split at h <;> first | contradiction | skip
 rename_i fs hm
 split at h <;> first | contradiction | skip
 rename_i hp
 unfold pairB at hp
 split at hp <;> first | contradiction | skip
 rename_i f g hfs
 simp only [Bool.and_eq_true, bne_iff_ne, ne_eq, beq_iff_eq, Bool.not_eq_true'] at hp
 obtain ⟨⟨⟨⟨⟨m1, m2⟩, o1⟩, o2⟩, hs⟩, hu⟩ := hp
 split at hu <;> first | contradiction | skip
 rename_i u1 u2
 have hfs' : fs = #[f, g] := by
  cases fs
  simpa using hfs
 subst hfs'
 exact ⟨f, g, hm, m1, m2, o1, o2, hs, u1, u2⟩
theorem pair_sound (d : Nat) {t : TypeId} {f g : Field} (hp : PairT P t f g) (a b c e : ByteArray) :
  (Op.equalIn (d + 1 + 1) t (.agg #[.string a, .string b]) (.agg #[.string c, .string e])).run P w = .ok (a == c && b == e) w := by
 obtain ⟨hu, m1, m2, o1, o2, hs, u1, u2⟩ := hp
 have p1 := fun (x y : ByteArray) => str_part (w := w) u1 (cs := #[.string x, .string y]) (off := 0) rfl
 have p2 := fun (x y : ByteArray) => str_part (w := w) u2 (cs := #[.string x, .string y]) (off := 1) rfl
 have e1 := fun (x y : ByteArray) => str_equal (w := w) d u1 x y
 have e2 := fun (x y : ByteArray) => str_equal (w := w) d u2 x y
 rw [Op.equalIn]
 simp only [Sem.run_bind, run_und hu]
 simp [hs, m1, m2, o1, o2, p1, p2, e1, e2]
 cases h1 : a == c <;> cases h2 : b == e <;> simp_all
theorem str_guard (d : Nat) {t : TypeId} (u : P.underlying t = some .string) (a c : ByteArray) : (Op.eqGuardIn (d + 1) t (.string a) (.string c)).run P w = .ok false w := by
 simp [Op.eqGuardIn, run_und u]
theorem pair_guard (d : Nat) {t : TypeId} {f g : Field} (hp : PairT P t f g) (a b c e : ByteArray) :
  (Op.eqGuardIn (d + 1 + 1) t (.agg #[.string a, .string b]) (.agg #[.string c, .string e])).run P w = .ok false w := by
 obtain ⟨hu, m1, m2, o1, o2, hs, u1, u2⟩ := hp
 have p1 := fun (x y : ByteArray) => str_part (w := w) u1 (cs := #[.string x, .string y]) (off := 0) rfl
 have p2 := fun (x y : ByteArray) => str_part (w := w) u2 (cs := #[.string x, .string y]) (off := 1) rfl
 have e1 := fun (x y : ByteArray) => str_guard (w := w) d u1 x y
 have e2 := fun (x y : ByteArray) => str_guard (w := w) d u2 x y
 rw [Op.eqGuardIn]
 simp only [Sem.run_bind, run_und hu]
 simp [m1, m2, o1, o2, p1, p2, e1, e2]
theorem rep_pair {a b : List UInt8} {v : Value} (h : Rep ι S T w (.agg [.str a, .str b]) v) : v = .agg #[.string ⟨a.toArray⟩, .string ⟨b.toArray⟩] := by
 obtain ⟨arr, rfl, hl, hh⟩ := h.agg_inv
 have hs : arr.size = 2 := hl.symm
 have e0 : arr[0]? = some arr[0] := Array.getElem?_eq_getElem (by omega)
 have e1 : arr[1]? = some arr[1] := Array.getElem?_eq_getElem (by omega)
 have r0 := hh 0 _ _ rfl e0
 have r1 := hh 1 _ _ rfl e1
 generalize arr[0] = v0 at *
 generalize arr[1] = v1 at *
 cases r0
 cases r1
 congr 1
 apply Array.ext'
 have : arr.toList = [.string ⟨a.toArray⟩, .string ⟨b.toArray⟩] := by
  cases arr with
  | mk l =>
   match l, hs with
   | [x, y], _ =>
    simp at e0 e1
    simp [e0, e1]
 simpa using this
theorem bytes_beq (a b : List UInt8) : ((⟨a.toArray⟩ : ByteArray) == ⟨b.toArray⟩) = (a == b) := by
 show (a.toArray == b.toArray) = (a == b)
 simp
set_option maxHeartbeats 2000000 in
theorem aEq_sound (d : Nat) {ts : List TypeId} {cst : Bool} {x y : AVal} {b : Bool} {vx vy : Value} {t : TypeId} (hx : Rep ι S T w x vx) (hy : Rep ι S T w y vy)
  (h : aEq (eqK P ts t) cst x y = some b) : (Op.equalIn (d + 1 + 1) t vx vy).run P w = .ok b w := by
 unfold aEq at h
 split at h <;> (try simp at h)
 ·rename_i hk
  subst h
  cases hx; cases hy
  simp [Op.equalIn, run_underlying' (eqK_bool hk)]
 ·rename_i hk
  obtain ⟨⟨ms, hm⟩, _⟩ := eqK_iface hk
  cases hx; cases hy
  simp [Op.equalIn, run_underlying' hm, h.2]
 ·rename_i hk
  obtain ⟨⟨ms, hm⟩, _⟩ := eqK_iface hk
  cases hx; cases hy
  simp [Op.equalIn, run_underlying' hm, h]
 ·rename_i hk
  obtain ⟨⟨ms, hm⟩, _⟩ := eqK_iface hk
  cases hx; cases hy
  simp [Op.equalIn, run_underlying' hm, h]
 ·rename_i us t1 k a t2 k' b' hk
  obtain ⟨⟨ms, hm⟩, hg⟩ := eqK_iface hk
  cases hx
  rename_i hx
  cases hx
  cases hy
  rename_i hy
  cases hy
  by_cases ht : t1 = t2
  ·simp [ht] at h
   subst ht
   obtain ⟨rfl, hu, hb⟩ := h
   have := hg _ hu
   unfold goodErr at this
   split at this <;> try (simp at this; done)
   rename_i i k'' hi hu'
   simp [Op.equalIn, run_underlying' hm, run_underlying' hu', typeInfo, hi, this, hb]
  ·simp [ht] at h
   simp [Op.equalIn, run_underlying' hm, ht, h]
 all_goals rename_i hk
 all_goals first
  | obtain ⟨e, hm⟩ := eqK_slice hk
  | obtain ⟨e, hm⟩ := eqK_ptr hk
  |(obtain ⟨f, g, hm⟩ := eqK_pair hk
    obtain rfl := rep_pair hx
    obtain rfl := rep_pair hy
    rw [pair_sound d hm, bytes_beq, bytes_beq]
    simp [h])
 all_goals cases hx
 all_goals cases hy
 all_goals simp [Op.equalIn, run_underlying' hm, h]
theorem eqGuard_sound {ts : List TypeId} {op : BinOp} {x y : AVal} {r : AVal} {vx vy : Value} {t : TypeId} {X Y : Operand} (hx : Rep ι S T w x vx) (hy : Rep ι S T w y vy)
  (h : aBin op (eqK P ts t) (isC X || isC Y) x y = some r) : (eqGuard op t X Y vx vy).run P w = .ok () w := by
 unfold eqGuard
 cases op <;> (try (simp; done))
 all_goals
  unfold aBin at h
  split at h
  ·cases hx; cases hy; simp
  ·cases hx; cases hy; simp
  ·simp only [Option.map_eq_some_iff] at h
   obtain ⟨b, h, _⟩ := h
   unfold aEq at h
   split at h <;> (try simp at h)
   case h_2 =>
    cases hx; cases hy
    have hc := h.1
    cases X <;> cases Y <;> simp_all [isC]
   case h_14 =>
    rename_i hk _ _
    obtain ⟨f, g, hm⟩ := eqK_pair hk
    obtain rfl := rep_pair hx
    obtain rfl := rep_pair hy
    have hg := fun (a b c e : ByteArray) => pair_guard (w := w) 9998 hm a b c e
    have h10 : Op.maxDepth = 9998 + 1 + 1 := rfl
    rw [← h10] at hg
    cases ht : P.eqGuardType P.depth t <;> simp [ht, hg]
   all_goals cases hx
   all_goals cases hy
   all_goals simp
theorem aBin_sound {ts : List TypeId} {op : BinOp} {x y : AVal} {r : AVal} {vx vy : Value} {t : TypeId} {X Y : Operand} (hx : Rep ι S T w x vx) (hy : Rep ι S T w y vy)
  (h : aBin op (eqK P ts t) (isC X || isC Y) x y = some r) : Pure P ι S T w (do eqGuard op t X Y vx vy; binOp op t vx vy) r := by
 have hg := eqGuard_sound hx hy h
 suffices Pure P ι S T w (binOp op t vx vy) r by
  obtain ⟨v, hv, hr⟩ := this
  exact ⟨v, by simp [hg, hv], hr⟩
 clear hg
 unfold aBin at h
 split at h
 ·cases hx; cases hy; exact intOp_sound h
 ·cases hx; cases hy; exact strOp_sound h
 ·have he : ∀ b, aEq (eqK P ts t) (isC X || isC Y) x y = some b → (Op.equal t vx vy).run P w = .ok b w := fun b hb => aEq_sound 9998 hx hy hb
  split at h <;> simp only [Option.map_eq_some_iff, reduceCtorEq] at h
  all_goals
   obtain ⟨b, hb, rfl⟩ := h
   have := he b hb
   refine .bool ?_
   unfold aEq at hb
   split at hb <;> (try (simp at hb; done))
   all_goals cases hx
   all_goals cases hy
   all_goals simp [binOp, this]
theorem aUn_sound {op : UnOp} {x r : AVal} {v : Value} (hx : Rep ι S T w x v) (h : aUn op x = some r) : Pure P ι S T w (Op.unary op v) r := by
 unfold aUn at h
 split at h <;> simp at h
 all_goals subst h
 all_goals cases hx
 ·exact .int (by simp [Op.unary, Op.intArith])
 ·exact .int (by simp [Op.unary, Op.intBits])
 ·exact .bool (by simp [Op.unary])
end
end Go.Abs
namespace Go.Abs
section
variable {gl : Globs} {P : Program} {ι : Emb} {S T : Nat → Prop} {w : World}
theorem tsz_info {t : TypeId} {sz : Nat} {agg : Bool} (h : tsz P t = some (sz, agg)) :
  (isAgg t).run P w = .ok agg w ∧ ∃ i, P.info? t = some i ∧ i.size = sz := by
 unfold tsz at h
 split at h <;> simp at h
 ·rename_i i fs hi hu
  obtain ⟨rfl, rfl⟩ := h
  exact ⟨by simp [isAgg, run_underlying' hu], i, hi, rfl⟩
 ·rename_i i n e hi hu
  obtain ⟨rfl, rfl⟩ := h
  exact ⟨by simp [isAgg, run_underlying' hu], i, hi, rfl⟩
 ·rename_i i d h1 h2 hi hu
  obtain ⟨rfl, rfl⟩ := h
  refine ⟨?_, i, hi, rfl⟩
  simp only [isAgg, Sem.run_bind, run_underlying' hu, Result.andThen_ok]
  rfl
theorem Addr.add_none (b o n : Nat) : (⟨b, o, none⟩ : Addr).add n = ⟨b, o + n, none⟩ := by unfold Addr.add; split <;> simp_all
theorem load_sound {t : TypeId} {sz off : Nat} {agg : Bool} {cs : List AVal} {r : AVal} {b o : Nat} (ht : tsz P t = some (sz, agg)) (hp : part cs off sz agg = some r)
  (hc : ∀ (j : Nat) (x : AVal), cs[j]? = some x → ∃ v, w.cell? ⟨b, o + j, none⟩ = some v ∧ Rep ι S T w x v) : Pure P ι S T w (loadVar t ⟨b, o + off, none⟩) r := by
 obtain ⟨ha, i, hi, hsz⟩ := tsz_info (w := w) ht
 unfold part at hp
 cases agg with
 | true =>
  simp at hp
  obtain ⟨hle, rfl⟩ := hp
  have hcell : ∀ j, j < sz → ∃ v, w.cell? ⟨b, o + off + j, none⟩ = some v ∧ ∀ x, cs[off + j]? = some x → Rep ι S T w x v := by
   intro j hj
   have hx : cs[off + j]? = some cs[off + j] := List.getElem?_eq_getElem (by omega)
   obtain ⟨v, hv, hr⟩ := hc _ _ hx
   exact ⟨v, by rw [Nat.add_assoc]; exact hv, fun x hx' => by rw [hx] at hx'; cases hx'; exact hr⟩
  let f : Nat → Value := fun j => (w.cell? ⟨b, o + off + j, none⟩).getD undef
  have hl := run_loadCells (P := P) w ⟨b, o + off, none⟩ sz f (fun j hj => by
   obtain ⟨v, hv, _⟩ := hcell j hj
   simp [Addr.add_none, f, hv])
  refine ⟨.agg ((List.range sz).map f).toArray, ?_, .agg _ _ (by simp; omega) ?_⟩
  ·simp [loadVar, ha, sizeOf, typeInfo, hi, hsz, hl]
  ·intro j c v hcj hv
   have hj : j < sz := by
    rcases Nat.lt_or_ge j sz with h | h
    ·exact h
    ·simp [List.getElem?_take, Nat.not_lt.2 h] at hcj
   obtain ⟨v', hv', hr⟩ := hcell j hj
   have : v = v' := by
    simp [hj, f, hv'] at hv
    exact hv.symm
   subst this
   exact hr c (by simpa [List.getElem?_take, hj, List.getElem?_drop] using hcj)
 | false =>
  simp at hp
  obtain ⟨v, hv, hr⟩ := hc _ _ hp
  exact ⟨v, by simp [loadVar, ha, hv], hr⟩
theorem part_sound {t : TypeId} {sz off : Nat} {agg : Bool} {cs : List AVal} {arr : Array Value} {r : AVal} (ht : tsz P t = some (sz, agg)) (hp : part cs off sz agg = some r)
  (hl : cs.length = arr.size) (hc : ∀ (j : Nat) (x : AVal) (v : Value), cs[j]? = some x → arr[j]? = some v → Rep ι S T w x v) : Pure P ι S T w (Go.part t arr off) r := by
 obtain ⟨ha, i, hi, hsz⟩ := tsz_info (w := w) ht
 unfold part at hp
 cases agg with
 | true =>
  simp at hp
  obtain ⟨hle, rfl⟩ := hp
  refine ⟨.agg (arr.extract off (off + sz)), by simp [Go.part, ha, sizeOf, typeInfo, hi, hsz], .agg _ _ (by simp; omega) ?_⟩
  intro j c v hcj hv
  have hj : j < sz := by
   rcases Nat.lt_or_ge j sz with h | h
   ·exact h
   ·simp [List.getElem?_take, Nat.not_lt.2 h] at hcj
  refine hc (off + j) c v (by simpa [List.getElem?_take, hj, List.getElem?_drop] using hcj) ?_
  rw [Array.getElem?_extract] at hv
  split at hv
  ·exact hv
  ·simp at hv
 | false =>
  simp at hp
  have hlt : off < arr.size := by
   have := (List.getElem?_eq_some_iff.1 hp).1
   omega
  exact ⟨arr[off], by simp [Go.part, ha, hlt], hc _ _ _ hp (by simp [hlt])⟩
theorem row_cell {L : Loc} {es : List AVal} {sz : Nat} (hn : NodeRep ι S T w L (.row es sz)) {i : Nat} {e : AVal} (he : es[i]? = some e) :
  e.cells.length = sz ∧ e.closed = true ∧ ∀ (j : Nat) (x : AVal), e.cells[j]? = some x → ∃ v, w.cell? ⟨L.block, i * sz + j, none⟩ = some v ∧ Rep ι S T w x v := by
 obtain ⟨_, _, _, _, arr, ty, hb, _, hh⟩ := hn
 obtain ⟨a, b, c⟩ := hh i e he
 refine ⟨a, b, fun j x hx => ?_⟩
 obtain ⟨v, hv, hr⟩ := c j x hx
 exact ⟨v, by rw [cell_of_row w _ _ arr ty (0, 0) hb]; exact hv, hr⟩
inductive Shows (ι : Emb) (S T : Nat → Prop) (w : World) : Value → List AVal → Prop where
 | nil : Shows ι S T w (.slice none 0 0) []
 | empty (a : Addr) : Shows ι S T w (.slice (some a) 0 0) []
 | some (b o c sz : Nat) (es : List AVal) (hc : es.length ≤ c) (hsz : ∀ (i : Nat) (e : AVal), es[i]? = some e → e.cells.length = sz)
   (hcell : ∀ (i : Nat) (e : AVal) (j : Nat) (y : AVal), es[i]? = some e → e.cells[j]? = some y → ∃ u, w.cell? ⟨b, o + i * sz + j, none⟩ = some u ∧ Rep ι S T w y u) :
   Shows ι S T w (.slice (some ⟨b, o, none⟩) es.length c) es
theorem elems_sound {h : Heap} {next : Free} (hi : Inv ι S T h w next) {x : AVal} {v : Value} {es : List AVal} (hx : Rep ι S T w x v) (he : elems h x = some es) : Shows ι S T w v es := by
 unfold elems at he
 split at he
 ·rename_i z es' clip tmp
  simp at he; subst he
  cases hx with
  | view _ _ _ _ b o c sp vs hsp hc hclip hS' hsz hcl hcell h =>
   rcases hsp with rfl | rfl
   ·exact .some b o c z _ hc hsz fun i e j y h1 h2 => ⟨_, hcell i e j y h1 h2, h i e j y h1 h2⟩
   ·obtain rfl : es' = [] := List.eq_nil_of_length_eq_zero (by omega)
    exact .empty _
 ·simp at he; subst he
  cases hx; exact .nil
 ·rename_i id z off len clip
  split at he
  ·rename_i es' sz hg
   split at he <;> simp at he
   subst he
   rename_i hle
   obtain ⟨L, hL, _, _, hn⟩ := hi.get hg
   cases hx with
   | own _ _ _ _ _ L' c o hL' hsz' hc hcap hclip hnc ho =>
    rw [hL] at hL'; cases hL'
    have hls : L.sz = sz := hn.1
    have hlen : ((es'.drop off).take len).length = len := by simp; omega
    have key : ∀ (i : Nat) (e : AVal), ((es'.drop off).take len)[i]? = some e → es'[off + i]? = some e := by
     intro i e he
     rw [List.getElem?_take] at he
     split at he
     ·simpa [List.getElem?_drop] using he
     ·simp at he
    have := Shows.some (ι := ι) (S := S) (T := T) (w := w) L.block o c sz ((es'.drop off).take len) (by omega) (fun i e he => (row_cell hn (key i e he)).1) (fun i e j y he hy => by
     obtain ⟨u, hu, hr⟩ := (row_cell hn (key i e he)).2.2 j y hy
     refine ⟨u, ?_, hr⟩
     have hlt := (List.getElem?_eq_some_iff.1 he).1
     rw [← hu, ho (by omega), ← hsz', hls]
     congr 2
     rw [Nat.add_mul])
    rwa [hlen] at this
  ·simp at he
 ·simp at he
theorem bytesOf_cells {es : List AVal} {l : List UInt8} (h : bytesOf es = some l) : ∃ ns : List Int, es = ns.map (AVal.int .u8) ∧ l = ns.map fun n => UInt8.ofNat n.toNat := by
 induction es generalizing l with
 | nil => simp [bytesOf] at h; subst h; exact ⟨[], rfl, rfl⟩
 | cons x r ih =>
  cases x
  case int k n =>
   cases k <;> simp [bytesOf] at h
   obtain ⟨l', hl, rfl⟩ := h
   obtain ⟨ns, rfl, rfl⟩ := ih hl
   exact ⟨n :: ns, rfl, rfl⟩
  all_goals simp [bytesOf] at h
theorem foldl_push (ns : List Int) : ∀ s : ByteArray, ns.foldl (fun r n => r.push (UInt8.ofNat n.toNat)) s = ⟨(s.data.toList ++ ns.map fun n => UInt8.ofNat n.toNat).toArray⟩ := by
 induction ns with
 | nil => intro s; simp
 | cons n ns ih =>
  intro s
  rw [List.foldl_cons, ih]
  congr 1
  simp [ByteArray.push]
theorem bytesToString_sound {v : Value} {es : List AVal} {l : List UInt8} (hs : Shows ι S T w v es) (hb : bytesOf es = some l) : Pure P ι S T w (Conv.bytesToString v) (.str l) := by
 obtain ⟨ns, rfl, rfl⟩ := bytesOf_cells hb
 refine .str ?_
 generalize hes : ns.map (AVal.int .u8) = es at hs
 cases hs with
 | nil =>
  have : ns = [] := by simpa using hes
  subst this
  simp [Conv.bytesToString]
  rfl
 | empty a =>
  have : ns = [] := by simpa using hes
  subst this
  have hl := run_loadCells_list (P := P) w a [] (by simp)
  have := run_bytesToString (P := P) w a 0 0 [] (by simpa using hl)
  rw [this, foldl_push]
  simp
 | some b o c sz es hc hsz hcell =>
  subst hes
  have hl := run_loadCells_list (P := P) w ⟨b, o, none⟩ (ns.map (Value.int .u8)) (fun j v hv => by
   simp at hv
   obtain ⟨n, hn, rfl⟩ := hv
   obtain ⟨u, hu, hr⟩ := hcell j (.int .u8 n) 0 (.int .u8 n) (by simp [hn]) rfl
   have hsz1 := hsz j (.int .u8 n) (by simp [hn])
   simp [AVal.cells] at hsz1
   subst hsz1
   rw [Addr.add_none]
   cases hr
   simpa using hu)
  have := run_bytesToString (P := P) w ⟨b, o, none⟩ ((ns.map (AVal.int .u8)).length) c ns (by simpa using hl)
  rw [this, foldl_push]
  simp
end
def Good (P : Program) (o : Oper) (a : Act) (w : World) (ι : Emb) (S T : Nat → Prop) (h : Heap) (next : Free) (r : AVal) (h' : Heap) : Prop :=
 ∃ nx v' w' ι' S', (execOp a.eval o).run P w = .ok nx w' ∧ (nx = .value v' ∨ (nx = .skip ∧ v' = undef)) ∧ Rep ι' S' T w' r v' ∧ Inv ι' S' T h' w' next ∧ Step ι S T h w ι' S' h' w'
section
variable {gl : Globs} {P : Program} {ι : Emb} {S T : Nat → Prop} {w : World} {h : Heap} {next : Free} {o : Oper} {a : Act} {env : List AVal}
theorem Inv.mono {next' : Free} (hi : Inv ι S T h w next) (hn : ∀ id, next' id → next id) : Inv ι S T h w next' :=
 ⟨hi.nodup, hi.node, hi.inj, fun id hid => hi.fresh id (hn id hid), hi.s_lt, hi.t_lt⟩
theorem good_pure {s : Sem Value} {r : AVal} {next' : Free} (hi : Inv ι S T h w next) (hn : ∀ id, next' id → next id) (he : ∀ v, s.run P w = .ok v w → (execOp a.eval o).run P w = .ok (.value v) w) (hp : Pure P ι S T w s r) : Good P o a w ι S T h next' r h := by
 obtain ⟨v, hv, hr⟩ := hp
 exact ⟨_, v, w, ι, S, he v hv, .inl rfl, hr, hi.mono hn, .refl ..⟩
theorem toNat?_rep {x : AVal} {v : Value} {n : Nat} (hx : Rep ι S T w x v) (hn : toNat? x = some n) : ∃ k, v = .int k n := by
 unfold toNat? at hn
 split at hn <;> simp at hn
 obtain ⟨h0, rfl⟩ := hn
 cases hx
 rename_i k n
 exact ⟨k, by rw [Int.toNat_of_nonneg h0]⟩
end
end Go.Abs
namespace Go.Abs
section
variable {gl : Globs} {P : Program} {ι : Emb} {S T : Nat → Prop} {w : World} {h h' : Heap} {next next' : Free} {o : Oper} {a : Act} {env : List AVal} {r : AVal} {nid : Nat} {ts : List TypeId}
def OptRep (ι : Emb) (S T : Nat → Prop) (w : World) : Option AVal → Option Value → Prop
 | none, none => True
 | some x, some v => Rep ι S T w x v
 | _, _ => False
theorem bound_run {d l : Nat} {x : Option AVal} {v : Option Value} (hx : OptRep ι S T w x v) (hl : natOr d x = some l) :
  (v = none ∧ l = d) ∨ ∃ k, v = some (.int k l) := by
 cases x with
 | none =>
  cases v with
  | none => simp [natOr] at hl; exact .inl ⟨rfl, hl.symm⟩
  | some v => exact hx.elim
 | some x =>
  cases v with
  | none => exact hx.elim
  | some v =>
   obtain ⟨k, rfl⟩ := toNat?_rep hx hl
   exact .inr ⟨k, rfl⟩
theorem bounds_sound {n : Nat} {lo hi mx : Option AVal} {l hh : Nat} {m : Option Nat} {vlo vhi vmx : Option Value} (isSlice : Bool) (c : Nat) (hn : n ≤ c)
  (hlo : OptRep ι S T w lo vlo) (hhi : OptRep ι S T w hi vhi) (hmx : OptRep ι S T w mx vmx) (hm : mx.isSome = true → hi.isSome = true)
  (hb : bounds n lo hi mx = some (l, hh, m)) : l ≤ hh ∧ hh ≤ n ∧ (∀ k, m = some k → hh ≤ k ∧ k ≤ n) ∧ (m = none ↔ mx = none) ∧ (Instr.sliceBounds isSlice n c vlo vhi vmx).run P w = .ok (l, hh, m.getD c) w := by
 unfold bounds at hb
 split at hb
 ·cases vmx with
  | some v => exact hmx.elim
  | none =>
  split at hb <;> simp at hb
  rename_i l' h' h1 h2
  obtain ⟨⟨hle1, hle2⟩, rfl, rfl, rfl⟩ := hb
  refine ⟨hle1, hle2, by simp, by simp, ?_⟩
  rcases bound_run hlo h1 with ⟨rfl, rfl⟩ | ⟨k1, rfl⟩ <;> rcases bound_run hhi h2 with ⟨rfl, rfl⟩ | ⟨k2, rfl⟩ <;>
   simp [Instr.sliceBounds, Instr.sliceBound, asIntOf, hle1, Nat.le_trans hle2 hn]
 ·split at hb <;> simp at hb
  rename_i x _ m' l' h' h0 h1 h2
  obtain ⟨⟨hle1, hle2, hle3⟩, rfl, rfl, rfl⟩ := hb
  refine ⟨hle1, Nat.le_trans hle2 hle3, by intro k hk; simp at hk; subst hk; exact ⟨hle2, hle3⟩, by simp, ?_⟩
  cases vmx with
  | none => exact hmx.elim
  | some v =>
  obtain ⟨k0, rfl⟩ := toNat?_rep hmx h0
  cases hi with
  | none => simp at hm
  | some hi =>
  cases vhi with
  | none => exact hhi.elim
  | some vh =>
  obtain ⟨k2, rfl⟩ := toNat?_rep hhi h2
  rcases bound_run hlo h1 with ⟨rfl, rfl⟩ | ⟨k1, rfl⟩ <;>
   simp [Instr.sliceBounds, Instr.sliceBound, asIntOf, hle1, hle2, Nat.le_trans hle3 hn]
theorem nth_take_drop {α : Type} {l : List α} {off len i : Nat} {e : α} (he : ((l.drop off).take len)[i]? = some e) : l[off + i]? = some e ∧ i < len := by
 rw [List.getElem?_take] at he
 split at he
 ·exact ⟨by simpa [List.getElem?_drop] using he, by assumption⟩
 ·simp at he
theorem slice_text (s : List UInt8) (l h : Nat) : (⟨s.toArray⟩ : ByteArray).extract l h = ⟨((s.drop l).take (h - l)).toArray⟩ := by
 ext1
 simp [ByteArray.data_extract]
theorem aSlice_sound {t e : TypeId} {x r : AVal} {v : Value} {lo hi mx : Option AVal} {vlo vhi vmx : Option Value} {i : TypeInfo} (hu : P.underlying t = some (.slice e)) (hinf : P.info? e = some i)
  (hx : Rep ι S T w x v) (hlo : OptRep ι S T w lo vlo) (hhi : OptRep ι S T w hi vhi) (hmx : OptRep ι S T w mx vmx) (hm : mx.isSome = true → hi.isSome = true)
  (hs : ∀ s, x ≠ .str s) (hr : aSlice i.size x lo hi mx = some r) : Pure P ι S T w (Instr.slice t v vlo vhi vmx) r := by
 unfold aSlice at hr
 split at hr
 ·exact absurd rfl (hs _)
 ·rename_i z es clip tmp
  split at hr <;> simp at hr
  rename_i l hh m hb
  obtain ⟨rfl, rfl⟩ := hr
  cases hx with
  | view _ _ _ _ b o c sp vs hsp hc hclip hS' hsz hcl hcell hrep =>
  obtain ⟨h1, h2, h3, h4, h5⟩ := bounds_sound (P := P) (isSlice := true) c hc hlo hhi hmx hm hb
  have hlen : ((es.drop l).take (hh - l)).length = hh - l := by simp; omega
  have hmc : hh ≤ m.getD c := by
   cases m with
   | none => simp; omega
   | some k => exact (h3 k rfl).1
  have hrun : (Instr.slice t (.slice (some ⟨b, o, sp⟩) es.length c) vlo vhi vmx).run P w = .ok (.slice (some ⟨b, if m.getD c = l then o else o + l * i.size, sp⟩) (hh - l) (m.getD c - l)) w := by
   simp only [Instr.slice, Sem.run_bind, run_underlying' hu, Result.andThen_ok, h5, sizeOf, typeInfo, run_program, hinf, Sem.run_pure]
   rcases hsp with rfl | rfl
   ·split <;> simp [Addr.add_none]
   ·have hm0 : m.getD 0 = l := by
     cases m with
     | none => simp; omega
     | some k =>
      have := h3 k rfl
      simp
      omega
    simp [hm0]
  refine ⟨_, hrun, ?_⟩
  have key : ∀ (j : Nat) (y : AVal), ((es.drop l).take (hh - l))[j]? = some y → es[l + j]? = some y ∧ j < hh - l := fun j y hy => nth_take_drop hy
  have := Rep.view (ι := ι) (S := S) (T := T) (w := w) i.size ((es.drop l).take (hh - l)) (clipOf m hh es.length clip) tmp b (if m.getD c = l then o else o + l * i.size) (m.getD c - l) sp (fun j k => vs (l + j) k)
   (by
    rcases hsp with rfl | rfl
    ·exact .inl rfl
    ·refine .inr ?_
     cases m with
     | none => simp
     | some k =>
      have := h3 k rfl
      simp
      omega)
   (by omega) (by
    rw [hlen]
    cases m with
    | none => simp [clipOf]; intro hc1 hc2; have := hclip hc1; omega
    | some k => simp [clipOf]; intro hk; omega)
   (fun j y hy => hS' (l + j) y (key j y hy).1) (fun j y hy => hsz (l + j) y (key j y hy).1) (fun j y hy => hcl (l + j) y (key j y hy).1)
   (fun j y k u hy hu' => by
    obtain ⟨hy', hj⟩ := key j y hy
    rw [← hcell (l + j) y k u hy' hu', if_neg (by omega)]
    congr 2
    rw [Nat.add_mul]
    omega)
   (fun j y k u hy hu' => hrep (l + j) y k u (key j y hy).1 hu')
  rwa [hlen] at this
 ·rename_i id z off len clip
  split at hr <;> simp at hr
  rename_i l hh m hb
  obtain ⟨⟨rfl, hm1, hm2⟩, rfl⟩ := hr
  cases hx with
  | own _ _ _ _ _ L c o hL hsz hc hcap hclip hnc ho =>
  obtain ⟨h1, h2, h3, h4, h5⟩ := bounds_sound (P := P) (isSlice := true) c hc hlo hhi hmx hm hb
  have hrun : (Instr.slice t (.slice (some ⟨L.block, o, none⟩) len c) vlo vhi vmx).run P w = .ok (.slice (some ⟨L.block, if m.getD c = l then o else o + l * i.size, none⟩) (hh - l) (m.getD c - l)) w := by
   simp only [Instr.slice, Sem.run_bind, run_underlying' hu, Result.andThen_ok, h5, sizeOf, typeInfo, run_program, hinf, Sem.run_pure]
   split <;> simp [Addr.add_none]
  refine ⟨_, hrun, ?_⟩
  have hmc : hh ≤ m.getD c ∧ m.getD c ≤ c := by
   cases m with
   | none => simp; omega
   | some k => have := h3 k rfl; simp; omega
  refine .own id i.size (off + l) (hh - l) (m.isSome || clip) L (m.getD c - l) _ hL hsz (by omega) (by omega) ?_ ?_ ?_
  ·intro hcl
   cases m with
   | none => simp at hcl ⊢; have := hclip hcl; rcases hm2 with h | h <;> simp_all
   | some k => simp at hm1 ⊢; omega
  ·intro hcl
   cases m with
   | none => simp at hcl ⊢; have := hnc hcl; omega
   | some k => simp at hcl
  ·intro hpos
   rw [if_neg (by omega), ho (by omega), Nat.add_mul]
 ·split at hr <;> simp at hr
  rename_i q hb
  obtain ⟨l, hh, m⟩ := q
  subst hr
  cases hx
  obtain ⟨h1, h2, h3, h4, h5⟩ := bounds_sound (P := P) (isSlice := true) 0 (Nat.le_refl _) hlo hhi hmx hm hb
  have hl : l = 0 := by omega
  have hh0 : hh = 0 := by omega
  have hm0 : m.getD 0 = 0 := by
   cases m with
   | none => rfl
   | some k => have := h3 k rfl; simp; omega
  subst hl; subst hh0
  exact ⟨_, by simp [Instr.slice, run_underlying' hu, h5, hm0, sizeOf, typeInfo, hinf], .lit _⟩
 ·simp at hr
theorem aSlice_text {t : TypeId} {x r : AVal} {v : Value} {lo hi : Option AVal} {vlo vhi : Option Value} (hu : P.underlying t = some .string)
  (hx : Rep ι S T w x v) (hlo : OptRep ι S T w lo vlo) (hhi : OptRep ι S T w hi vhi) (hr : aSlice 1 x lo hi none = some r) (hs : ∃ s, x = .str s) : Pure P ι S T w (Instr.slice t v vlo vhi none) r := by
 obtain ⟨s, rfl⟩ := hs
 cases hx
 simp only [aSlice] at hr
 split at hr <;> simp at hr
 rename_i l hh m hb
 subst hr
 obtain ⟨h1, h2, h3, h4, h5⟩ := bounds_sound (P := P) (mx := none) (vmx := none) (isSlice := false) s.length (Nat.le_refl _) hlo hhi trivial (by simp) hb
 refine .str ?_
 have e : (⟨s.toArray⟩ : ByteArray).size = s.length := by simp [ByteArray.size]
 simp [Instr.slice, run_underlying' hu, e, h5, slice_text]
end
end Go.Abs
