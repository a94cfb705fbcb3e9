/- The A-machine: Go code run on plain values: no tape, no capacities, no orders, no addresses of what came in. Definitions alone. -/
import GoSem.Core.Sem
import GoSem.Op.String
import GoSem.Core.Utf8
set_option linter.unusedSectionVars false
set_option linter.unnecessarySimpa false
set_option linter.deprecated false
set_option linter.unusedVariables false
set_option linter.unusedSimpArgs false
namespace Go.AM

abbrev Str := List UInt8

/-- A value. 'ptr', 'sl', 'map' lead to blocks that this run made; 'dptr', 'data', 'dmap' to memory that nobody writes, told by what it holds. -/
inductive AV where
  | bool (b : Bool)
  | int (k : IntKind) (n : Int)
  | str (s : Str)
  | nilp
  | ptr (b off : Nat)
  | dptr (cs : List AV)
  | nils
  | sl (b off len : Nat) (sh : Option Nat)
  | data (xs : List AV)
  | nilm
  | map (b : Nat)
  | dmap (ks vs : List AV)
  | nilf
  | fn (g : Nat) (cap : List AV)
  | nili
  | iface (t : Nat) (v : AV)
  | agg (cs : List AV)
  | tup (vs : List AV)
  deriving Inhabited

def undef : AV := .tup []
def AV.cells : AV → List AV
  | .agg cs => cs
  | v => [v]
def AV.isCell : AV → Bool
  | .agg _ | .tup _ => false
  | _ => true

/-- A block of the run's own. 'arr': behind slices, of elements of 'sz' cells; tag 1: of bytes; its first 'fz' cells are not written any more. -/
inductive Blk where
  | dead
  | cells (cs : List AV)
  | arr (sz tag fz : Nat) (cs : List AV)
  | map (ks vs : List AV)
  deriving Inhabited

abbrev Heap := List Blk

inductive RX where
  | t (n : Nat)
  | c (v : AV)
  | glob (g : Nat)
  deriving Inhabited

inductive KK where
  | str | int | bool
  deriving Inhabited, DecidableEq
inductive EqK where
  | base            -- bools
  | flat (ks : List KK)  -- structs of numbers, texts, bools
  | ptr | sl | map | fn | ifc
  deriving Inhabited, DecidableEq

inductive LK where
  | str | sl | map
  deriving Inhabited, DecidableEq

inductive ROp where
  | mov (x : RX)
  | pick (c a b : RX)
  | box (v : RX)                                           -- a new variable (alloc: of the zero value)
  | build (zero : List AV) (parts : List (Nat × Nat × RX))   -- offset, size, part
  | bslice (sh : Option Nat) (tag len : Nat) (zero : List AV) (parts : List (Nat × Nat × RX))
  | load (sh : Option Nat) (a : RX)
  | store (n : Nat) (a v : RX)
  | nilchk (x : RX)
  | bin (op : BinOp) (x y : RX)
  | eq (k : EqK) (neg : Bool) (x y : RX)
  | un (op : UnOp) (x : RX)
  | toInt (k : IntKind) (x : RX)
  | toStr (bs : Bool) (x : RX)                               -- of bytes ('bs'); of a number, of a text
  | mkfn (g : Nat) (cap : List RX)
  | mkmap
  | slice (sz : Nat) (x : RX) (lo hi mx : Option RX)         -- of a slice; of a text where sz = 0
  | faddr (off : Nat) (x : RX)
  | field (off : Nat) (sh : Option Nat) (x : RX)
  | iaddr (sh : Option Nat) (x i : RX)
  | aaddr (n : Nat) (sh : Option Nat) (x i : RX)              -- of an array's variable
  | index (n : Nat) (sh : Option Nat) (x i : RX)             -- of a text; of an array's value (of n elements)
  | lookup (kk : KK) (zero : AV) (m k : RX) (ok : Bool)
  | mapupd (kk : KK) (m k v : RX)
  | mapent (kk : KK) (zero : AV) (m k : RX)
  | entst (m st v : RX)
  | ext (x : RX) (i : Nat)
  | mkif (t : Nat) (x : RX)
  | call (f : RX) (args : List RX)
  | fcall (g : Nat) (args : List RX)
  | app (sh : Option Nat) (tag bytes : Nat) (x y : RX)
  | appz (sh : Option Nat) (tag bytes : Nat) (zero : List AV) (x n : RX)   -- append(x, make(.., n)...)
  | len (lk : LK) (x : RX)
  | cap (x : RX)
  | copy (sz : Nat) (x y : RX)
  | clear (zero : List AV) (x : RX)
  | min (x y : RX)
  | max (x y : RX)
  | sdata (x : RX)
  | ustr (p n : RX)
  deriving Inhabited

structure RO where
  dst : Option Nat
  op : ROp
  guard : Option (Nat × Bool) := none       -- the slot of the guard, and what it must hold
  after : List Nat := []
  ix : Nat := 0                             -- its place in the program's own list
  deriving Inhabited

inductive RC where
  | skip
  | region (ops : List RO) (draw : Bool)
  | region2 (pre : List RO) (x y : RO)       -- an open order whose two last operations store each for itself
  | seq (a b : RC)
  | cond (c : RX) (a b : RC)
  | block (id : Nat) (body : RC)
  | loop (body : RC)
  | exit (id : Nat)
  | ret
  deriving Inhabited

inductive RRes where
  | tmp (t : Nat)
  | cell (t : Nat) (sh : Option Nat)
  deriving Inhabited

structure RF where
  nt : Nat
  res : List RRes
  body : RC
  iso : Bool := false
  deriving Inhabited

structure Env where
  fn : Nat → Option RF
  glob : Nat → Option (List AV)
  prim : Nat → Option (List AV → Heap → Option (AV × Heap))

inductive Out where
  | normal
  | exit (id : Nat)
  | ret
  deriving DecidableEq, Inhabited

/-! ### Plain words -/
def szOf (sh : Option Nat) : Nat := sh.getD 1
/-- The value of a variable of this shape that begins these cells. -/
def mkv (sh : Option Nat) (cs : List AV) : Option AV :=
  match sh with
  | none => cs.head?
  | some n => if n ≤ cs.length then some (.agg (cs.take n)) else none
def wr (cs : List AV) (off : Nat) (vs : List AV) : List AV := cs.take off ++ vs ++ cs.drop (off + vs.length)

def AV.keyEq : AV → AV → Option Bool
  | .str a, .str b => some (a == b)
  | .int k a, .int k' b => if k = k' then some (a == b) else none
  | .bool a, .bool b => some (a == b)
  | _, _ => none
/-- The first place of a key, or none; 'none' outside: keys of different makes. -/
def findK (k : AV) : List AV → Nat → Option (Option Nat)
  | [], _ => some none
  | e :: es, i =>
    match k.keyEq e with
    | some true => some (some i)
    | some false => findK k es (i + 1)
    | none => none
def AV.isKey (kk : KK) : AV → Bool
  | .str _ => kk = .str
  | .int _ _ => kk = .int
  | .bool _ => kk = .bool
  | _ => false

def binop (op : BinOp) : AV → AV → Option AV
  | .int k a, .int k' b =>
    match op with
    | .shl => if b < 0 then none else some (.int k (k.wrap (a * 2 ^ (Nat.min b.toNat k.bits))))
    | .shr => if b < 0 then none else some (.int k (a.fdiv (2 ^ (Nat.min b.toNat k.bits))))
    | op =>
      if k ≠ k' then none else
      match op with
      | .add => some (.int k (k.wrap (a + b)))
      | .sub => some (.int k (k.wrap (a - b)))
      | .mul => some (.int k (k.wrap (a * b)))
      | .quo => if b = 0 then none else some (.int k (k.wrap (a.tdiv b)))
      | .rem => if b = 0 then none else some (.int k (a.tmod b))
      | .and => some (.int k (k.wrap (BitVec.ofInt k.bits a &&& BitVec.ofInt k.bits b).toNat))
      | .or => some (.int k (k.wrap (BitVec.ofInt k.bits a ||| BitVec.ofInt k.bits b).toNat))
      | .xor => some (.int k (k.wrap (BitVec.ofInt k.bits a ^^^ BitVec.ofInt k.bits b).toNat))
      | .andNot => some (.int k (k.wrap (BitVec.ofInt k.bits a &&& ~~~ BitVec.ofInt k.bits b).toNat))
      | .eql => some (.bool (a == b))
      | .neq => some (.bool (a != b))
      | .lss => some (.bool (decide (a < b)))
      | .leq => some (.bool (decide (a ≤ b)))
      | .gtr => some (.bool (decide (b < a)))
      | .geq => some (.bool (decide (b ≤ a)))
      | _ => none
  | .str a, .str b =>
    match op with
    | .add => if a.length + b.length < 9223372036854775808 then some (.str (a ++ b)) else none
    | .eql => some (.bool (a == b))
    | .neq => some (.bool (a != b))
    | .lss => some (.bool (Op.bytesLess a b))
    | .leq => some (.bool (Op.bytesLess a b || a == b))
    | .gtr => some (.bool (!(Op.bytesLess a b || a == b)))
    | .geq => some (.bool (!Op.bytesLess a b))
    | _ => none
  | _, _ => none

def unop (op : UnOp) : AV → Option AV
  | .bool b => match op with | .not => some (.bool !b) | _ => none
  | .int k n => match op with
    | .neg => some (.int k (k.wrap (0 - n)))
    | .xor => some (.int k (k.wrap (BitVec.ofInt k.bits (if k.signed then -1 else k.max) ^^^ BitVec.ofInt k.bits n).toNat))
    | _ => none
  | _ => none

/-- '==' of what leads somewhere: with nil, or to one variable of the run's own. -/
def refEq : EqK → AV → AV → Option Bool
  | .ptr, .nilp, .nilp => some true
  | .ptr, .nilp, .ptr _ _ => some false
  | .ptr, .ptr _ _, .nilp => some false
  | .ptr, .nilp, .dptr _ => some false
  | .ptr, .dptr _, .nilp => some false
  | .ptr, .ptr b o, .ptr b' o' => if b = b' then some (o == o') else none
  | .sl, .nils, .nils => some true
  | .sl, .nils, .sl _ _ _ _ => some false
  | .sl, .sl _ _ _ _, .nils => some false
  | .sl, .nils, .data _ => some false
  | .sl, .data _, .nils => some false
  | .map, .nilm, .nilm => some true
  | .map, .nilm, .map _ => some false
  | .map, .map _, .nilm => some false
  | .map, .nilm, .dmap _ _ => some false
  | .map, .dmap _ _, .nilm => some false
  | .fn, .nilf, .nilf => some true
  | .fn, .nilf, .fn _ _ => some false
  | .fn, .fn _ _, .nilf => some false
  | .ifc, .nili, .nili => some true
  | .ifc, .nili, .iface _ _ => some false
  | .ifc, .iface _ _, .nili => some false
  | _, _, _ => none

def flatEq : List KK → List AV → List AV → Option Bool
  | [], [], [] => some true
  | .int :: ks, .int k a :: as, .int l b :: bs => if k = l then (if a == b then flatEq ks as bs else some false) else none
  | .str :: ks, .str a :: as, .str b :: bs => if a == b then flatEq ks as bs else some false
  | .bool :: ks, .bool a :: as, .bool b :: bs => if a == b then flatEq ks as bs else some false
  | _, _, _ => none

def fillA : List AV → List (Nat × Nat × AV) → Option (List AV)
  | cs, [] => some cs
  | cs, (off, size, v) :: r =>
    if v.cells.length = size ∧ off + size ≤ cs.length ∧ v.cells.all AV.isCell then fillA (wr cs off v.cells) r else none

def repC (zero : List AV) : Nat → List AV
  | 0 => []
  | n + 1 => zero ++ repC zero n

/-- The cells of a slice's (or a text's) elements, and how many they are. -/
def elemsOf (sz : Nat) (H : Heap) : AV → Option (List AV × Nat)
  | .nils => some ([], 0)
  | .data xs => if xs.all (fun x => x.cells.length == sz) then some (xs.flatMap AV.cells, xs.length) else none
  | .sl b off len sh =>
    if szOf sh = sz then
      match H[b]? with
      | some (.arr _ _ _ cs) => if off + len * sz ≤ cs.length then some ((cs.drop off).take (len * sz), len) else none
      | _ => none
    else none
  | .str s => if sz = 1 then some (s.map fun c => .int .u8 c.toNat, s.length) else none
  | _ => none

def bytesOfCells : List AV → Option Str
  | [] => some []
  | .int .u8 n :: r => (bytesOfCells r).map (UInt8.ofNat n.toNat :: ·)
  | _ :: _ => none

def appendA (sh : Option Nat) (tag bytes : Nat) (x : AV) (ys : List AV) (ny : Nat) (H : Heap) : Option (AV × Heap) :=
  match x with
  | .nils =>
    if ny = 0 then some (.nils, H)
    else if ny * bytes ≤ 140737488355328 ∧ ny < 9223372036854775808 then some (.sl H.length 0 ny sh, H ++ [.arr (szOf sh) tag 0 ys]) else none
  | .sl b off len sh' =>
    if sh' = sh then
      if ny = 0 then some (x, H)
      else match H[b]? with
      | some (.arr sz tag' fz cs) =>
        if sz = szOf sh ∧ tag' = tag ∧ fz ≤ off + len * sz ∧ off + len * sz ≤ cs.length ∧ (len + ny) * bytes ≤ 140737488355328 ∧ len + ny < 9223372036854775808 then
          some (.sl H.length 0 (len + ny) sh, H.set b .dead ++ [.arr sz tag (fz - off) ((cs.drop off).take (len * sz) ++ ys)])
        else none
      | _ => none
    else none
  | _ => none

/-! ### Made plain: what a run made, told as memory that nobody writes -/
mutual
def AV.noIds : AV → Bool
  | .ptr _ _ | .sl _ _ _ _ | .map _ => false
  | .dptr cs => AV.noIdsL cs
  | .data xs => AV.noIdsL xs
  | .dmap ks vs => AV.noIdsL ks && AV.noIdsL vs
  | .fn _ cap => AV.noIdsL cap
  | .iface _ v => AV.noIds v
  | .agg cs => AV.noIdsL cs
  | .tup vs => AV.noIdsL vs
  | _ => true
def AV.noIdsL : List AV → Bool
  | [] => true
  | v :: r => AV.noIds v && AV.noIdsL r
end
/-- A value that leads nowhere. -/
def AV.scalar : AV → Bool
  | .bool _ | .int _ _ | .str _ | .nilp | .nils | .nilm | .nilf | .nili => true
  | _ => false

def chunk (sh : Option Nat) : Nat → List AV → Option (List AV)
  | 0, _ => some []
  | n + 1, cs => (mkv sh cs).bind fun v => (chunk sh n (cs.drop (szOf sh))).map (v :: ·)

/-! 'fr': nothing of what came in may be in it. -/
mutual
def pub (fr : Bool) : Nat → Heap → AV → Option AV
  | 0, _, _ => none
  | k + 1, H, v =>
    match v with
    | .ptr b off =>
      match H[b]? with
      | some (.cells cs) | some (.arr _ _ _ cs) => if off ≤ cs.length then (pubL fr k H (cs.drop off)).map .dptr else none
      | _ => none
    | .sl b off len sh =>
      match H[b]? with
      | some (.arr sz _ _ cs) =>
        if sz = szOf sh ∧ off + len * sz ≤ cs.length then (pubL fr k H ((cs.drop off).take (len * sz))).bind fun cs => (chunk sh len cs).map .data else none
      | _ => none
    | .map b =>
      match H[b]? with
      | some (.map ks vs) => (pubL fr k H ks).bind fun ks => (pubL fr k H vs).map fun vs => .dmap ks vs
      | _ => none
    | .fn g cap => (pubL fr k H cap).map (.fn g)
    | .iface t v => (pub fr k H v).map (.iface t)
    | .agg cs => (pubL fr k H cs).map .agg
    | .tup vs => (pubL fr k H vs).map .tup
    | .dptr cs => if fr then none else if AV.noIdsL cs then some (.dptr cs) else none
    | .data xs => if fr then none else if AV.noIdsL xs then some (.data xs) else none
    | .dmap ks vs => if fr then none else if AV.noIdsL ks && AV.noIdsL vs then some (.dmap ks vs) else none
    | v => some v
def pubL (fr : Bool) : Nat → Heap → List AV → Option (List AV)
  | 0, _, _ => none
  | _ + 1, _, [] => some []
  | k + 1, H, v :: r => (pub fr k H v).bind fun v' => (pubL fr k H r).map (v' :: ·)
end

/-! ### Running -/
section
variable (E : Env) (cl : Nat → List AV → Heap → Option (AV × Heap)) (s : List AV)

def RX.ev : RX → AV
  | .t n => s.getD n undef
  | .c v => v
  | .glob g => match E.glob g with | some cs => .dptr cs | none => undef

def evParts (ps : List (Nat × Nat × RX)) : List (Nat × Nat × AV) := ps.map fun p => (p.1, p.2.1, p.2.2.ev E s)
def evNat : AV → Option Nat
  | .int _ n => if 0 ≤ n then some n.toNat else none
  | _ => none

def loadA (sh : Option Nat) (a : AV) (H : Heap) : Option AV :=
  match a with
  | .dptr cs => mkv sh cs
  | .ptr b off => match H[b]? with
    | some (.cells cs) | some (.arr _ _ _ cs) => mkv sh (cs.drop off)
    | _ => none
  | _ => none
def storeA (n : Nat) (a v : AV) (H : Heap) : Option Heap :=
  if v.cells.length = n ∧ v.cells.all AV.isCell then
    match a with
    | .ptr b off => match H[b]? with
      | some (.cells cs) => if off + n ≤ cs.length then some (H.set b (.cells (wr cs off v.cells))) else none
      | some (.arr sz tag fz cs) => if fz ≤ off ∧ off + n ≤ cs.length then some (H.set b (.arr sz tag fz (wr cs off v.cells))) else none
      | _ => none
    | _ => none
  else none
def sliceA (sz : Nat) (x : AV) (lo hi mx : Option AV) : Option AV :=
  match x with
  | .str t =>
    if mx.isSome ∨ sz ≠ 0 then none else
    match (match hi with | none => some t.length | some v => evNat v), (match lo with | none => some 0 | some v => evNat v) with
    | some h, some l => if l ≤ h ∧ h ≤ t.length then some (.str ((t.take h).drop l)) else none
    | _, _ => none
  | .nils =>
    match (match hi with | none => some 0 | some v => evNat v), (match lo with | none => some 0 | some v => evNat v), (match mx with | none => some 0 | some v => evNat v) with
    | some 0, some 0, some 0 => if sz = 0 then none else some .nils
    | _, _, _ => none
  | .data xs =>
    match (match hi with | none => some xs.length | some v => evNat v), (match lo with | none => some 0 | some v => evNat v), (match mx with | none => some xs.length | some v => evNat v) with
    | some h, some l, some m => if l ≤ h ∧ h ≤ m ∧ m ≤ xs.length ∧ xs.all (fun x => x.cells.length == sz) ∧ sz ≠ 0 then some (.data ((xs.take h).drop l)) else none
    | _, _, _ => none
  | .sl b off len sh =>
    match (match hi with | none => some len | some v => evNat v), (match lo with | none => some 0 | some v => evNat v), (match mx with | none => some len | some v => evNat v) with
    | some h, some l, some m => if l ≤ h ∧ h ≤ m ∧ m ≤ len ∧ szOf sh = sz ∧ sz ≠ 0 then some (.sl b (off + l * sz) (h - l) sh) else none
    | _, _, _ => none
  | _ => none
def iaddrA (sh : Option Nat) (x i : AV) : Option AV :=
  match x, evNat i with
  | .data xs, some i => match xs[i]? with
    | some v => if xs.all (fun x => x.cells.length == szOf sh) then some (.dptr v.cells) else none
    | none => none
  | .sl b off len sh', some i => if i < len ∧ sh' = sh then some (.ptr b (off + i * szOf sh)) else none
  | _, _ => none
def faddrA (off : Nat) : AV → Option AV
  | .ptr b o => some (.ptr b (o + off))
  | .dptr cs => some (.dptr (cs.drop off))
  | _ => none
def aaddrA (n : Nat) (sh : Option Nat) (x : AV) (i : Option Nat) : Option AV :=
  match x, i with
  | .ptr b o, some i => if i < n then some (.ptr b (o + i * szOf sh)) else none
  | .dptr cs, some i => if i < n then some (.dptr (cs.drop (i * szOf sh))) else none
  | _, _ => none
def clearA (zero : List AV) (x : AV) (H : Heap) : Option (AV × Heap) :=
  match x with
  | .nils => some (.tup [], H)
  | .sl b off ln sh =>
    if ln = 0 then some (.tup [], H) else
    match H[b]? with
    | some (.arr sz tag fz cs) =>
      if szOf sh = sz ∧ zero.length = sz ∧ fz ≤ off ∧ off + ln * sz ≤ cs.length then some (.tup [], H.set b (.arr sz tag fz (wr cs off (repC zero ln)))) else none
    | _ => none
  | _ => none
def indexA (n : Nat) (sh : Option Nat) (x i : AV) : Option AV :=
  match x, evNat i with
  | .str t, some i => match t[i]? with
    | some c => if n = 0 then some (.int .u8 c.toNat) else none
    | none => none
  | .agg cs, some i => if i < n then mkv sh (cs.drop (i * szOf sh)) else none
  | _, _ => none
def mapOf (m : AV) (H : Heap) : Option (List AV × List AV) :=
  match m with
  | .nilm => some ([], [])
  | .dmap ks vs => some (ks, vs)
  | .map b => match H[b]? with
    | some (.map ks vs) => some (ks, vs)
    | _ => none
  | _ => none
def lookupA (kk : KK) (zero m k : AV) (ok : Bool) (H : Heap) : Option AV :=
  if k.isKey kk then
    (mapOf m H).bind fun (ks, vs) => (findK k ks 0).map fun
      | some i => let v := vs.getD i undef; if ok then .tup [v, .bool true] else v
      | none => if ok then .tup [zero, .bool false] else zero
  else none
def mapupdA (kk : KK) (m k v : AV) (H : Heap) : Option Heap :=
  match m with
  | .map b => if k.isKey kk then match H[b]? with
    | some (.map ks vs) => (findK k ks 0).map fun
      | some i => H.set b (.map (ks.set i k) (vs.set i v))
      | none => H.set b (.map (ks ++ [k]) (vs ++ [v]))
    | _ => none else none
  | _ => none
def mapentA (kk : KK) (zero m k : AV) (H : Heap) : Option (AV × Heap) :=
  match m with
  | .map b => if k.isKey kk then match H[b]? with
    | some (.map ks vs) => (findK k ks 0).map fun
      | some i => (.tup [vs.getD i undef, .int .i64 i], H.set b (.map (ks.set i k) vs))
      | none => (.tup [zero, .int .i64 ks.length], H.set b (.map (ks ++ [k]) (vs ++ [zero])))
    | _ => none else none
  | _ => none
def entstA (m st v : AV) (H : Heap) : Option Heap :=
  match m, st with
  | .map b, .int _ n => match H[b]? with
    | some (.map ks vs) => if 0 ≤ n ∧ n.toNat < vs.length then some (H.set b (.map ks (vs.set n.toNat v))) else none
    | _ => none
  | _, _ => none
def lenA (H : Heap) : LK → AV → Option AV
  | .sl, .nils => some (.int .i64 0)
  | .sl, .sl _ _ len _ => some (.int .i64 len)
  | .sl, .data xs => some (.int .i64 xs.length)
  | .str, .str t => some (.int .i64 t.length)
  | .map, .nilm => some (.int .i64 0)
  | .map, .dmap ks _ => some (.int .i64 ks.length)
  | .map, .map b => match H[b]? with
    | some (.map ks _) => some (.int .i64 ks.length)
    | _ => none
  | _, _ => none
def toStrA (H : Heap) (bs : Bool) (v : AV) : Option AV :=
  match bs, v with
  | false, .int _ n => some (.str (Utf8.encode n).data.toList)
  | false, .str t => some (.str t)
  | true, .nils => some (.str [])
  | true, .data xs => match elemsOf 1 H (.data xs) with
    | some (cs, _) => (bytesOfCells cs).map .str
    | none => none
  | true, .sl b off len sh => match elemsOf 1 H (.sl b off len sh) with
    | some (cs, _) => (bytesOfCells cs).map .str
    | none => none
  | _, _ => none
def eqA (k : EqK) (neg : Bool) (x y : AV) : Option AV :=
  (match k with
   | .base => (match x, y with | .bool a, .bool b => some (a == b) | _, _ => none)
   | .flat ks => (match x, y with | .agg a, .agg b => if a.length = ks.length ∧ b.length = ks.length then flatEq ks a b else none | _, _ => none)
   | k => refEq k x y).map fun b => .bool (b != neg)

/-- One operation: its value (of one that has none: 'undef') and the heap behind it. -/
def ROp.run (o : ROp) (H : Heap) : Option (AV × Heap) :=
  let ev := RX.ev E s
  let pure (v : Option AV) : Option (AV × Heap) := v.map fun v => (v, H)
  match o with
  | .mov x => some (ev x, H)
  | .pick c a b => match ev c with
    | .bool t => some (if t then ev a else ev b, H)
    | _ => none
  | .box v => if (ev v).cells.all AV.isCell then some (.ptr H.length 0, H ++ [.cells (ev v).cells]) else none
  | .build zero parts => pure ((fillA zero (evParts E s parts)).map .agg)
  | .bslice sh tag ln zero parts => (fillA (repC zero ln) (evParts E s parts)).map fun cs => (.sl H.length 0 ln sh, H ++ [.arr (szOf sh) tag 0 cs])
  | .load sh a => pure (loadA sh (ev a) H)
  | .store n a v => (storeA n (ev a) (ev v) H).map fun H => (undef, H)
  | .nilchk x => match ev x with
    | .ptr b o => some (.ptr b o, H)
    | .dptr cs => some (.dptr cs, H)
    | .fn g cp => some (.fn g cp, H)
    | _ => none
  | .bin op x y => pure (binop op (ev x) (ev y))
  | .eq k neg x y => pure (eqA k neg (ev x) (ev y))
  | .un op x => pure (unop op (ev x))
  | .toInt k x => match ev x with
    | .int _ n => some (.int k (k.wrap n), H)
    | _ => none
  | .toStr bs x => pure (toStrA H bs (ev x))
  | .mkfn g cp => some (.fn g (cp.map ev), H)
  | .mkmap => some (.map H.length, H ++ [.map [] []])
  | .slice sz x lo hi mx => pure (sliceA sz (ev x) (lo.map ev) (hi.map ev) (mx.map ev))
  | .faddr off x => pure (faddrA off (ev x))
  | .field off sh x => match ev x with
    | .agg cs => pure (mkv sh (cs.drop off))
    | _ => none
  | .iaddr sh x i => pure (iaddrA sh (ev x) (ev i))
  | .aaddr n sh x i => pure (aaddrA n sh (ev x) (evNat (ev i)))
  | .index n sh x i => pure (indexA n sh (ev x) (ev i))
  | .lookup kk zero m k ok => pure (lookupA kk zero (ev m) (ev k) ok H)
  | .mapupd kk m k v => (mapupdA kk (ev m) (ev k) (ev v) H).map fun H => (undef, H)
  | .mapent kk zero m k => mapentA kk zero (ev m) (ev k) H
  | .entst m st v => (entstA (ev m) (ev st) (ev v) H).map fun H => (undef, H)
  | .ext x i => match ev x with
    | .tup vs => pure vs[i]?
    | _ => none
  | .mkif t x => some (.iface t (ev x), H)
  | .call f args => match ev f with
    | .fn g cp => cl g (args.map ev ++ cp) H
    | _ => none
  | .fcall g args => cl g (args.map ev) H
  | .app sh tag bytes x y => match elemsOf (szOf sh) H (ev y) with
    | some (ys, ny) => appendA sh tag bytes (ev x) ys ny H
    | none => none
  | .appz sh tag bytes zero x n => match evNat (ev n) with
    | some ny => if zero.length = szOf sh then appendA sh tag bytes (ev x) (repC zero ny) ny H else none
    | none => none
  | .len lk x => pure (lenA H lk (ev x))
  | .cap x => match ev x with
    | .nils => some (.int .i64 0, H)
    | _ => none
  | .copy sz x y => match ev x, elemsOf sz H (ev y) with
    | .sl b off ln sh, some (ys, ny) =>
      if szOf sh = sz then
        match H[b]? with
        | some (.arr sz' tag fz cs) =>
          let n := Nat.min ny ln
          if sz' = sz ∧ fz ≤ off ∧ off + n * sz ≤ cs.length then some (.int .i64 n, H.set b (.arr sz' tag fz (wr cs off (ys.take (n * sz))))) else none
        | _ => none
      else none
    | .nils, some _ => some (.int .i64 0, H)
    | _, _ => none
  | .clear zero x => clearA zero (ev x) H
  | .min x y => match ev x, ev y with
    | .int k a, .int _ b => some (.int k (if b < a then b else a), H)
    | _, _ => none
  | .max x y => match ev x, ev y with
    | .int k a, .int _ b => some (.int k (if a < b then b else a), H)
    | _, _ => none
  | .sdata x => match ev x with
    | .nils => some (.nilp, H)
    | .sl b off ln _ => if 0 < ln then some (.ptr b off, H) else none
    | _ => none
  | .ustr p n => match ev p, evNat (ev n) with
    | .nilp, some 0 => some (.str [], H)
    | .ptr _ _, some 0 => some (.str [], H)
    | .ptr b off, some n => match H[b]? with
      | some (.arr sz tag fz cs) =>
        if sz = 1 ∧ tag = 1 ∧ off + n ≤ cs.length ∧ n < 9223372036854775808 then (bytesOfCells ((cs.drop off).take n)).map fun t => (.str t, H.set b (.arr sz tag (Nat.max fz (off + n)) cs)) else none
      | _ => none
    | _, _ => none

def RO.wanted (o : RO) (s : List AV) : Bool :=
  match o.guard with
  | none => true
  | some (t, w) => match s.getD t undef with
    | .bool b => b == w
    | _ => false
def putA (s : List AV) (d : Option Nat) (v : AV) : List AV :=
  match d with
  | some d => s.set d v
  | none => s
end

set_option linter.unusedVariables false
def runOps (E : Env) (cl : Nat → List AV → Heap → Option (AV × Heap)) : List RO → List AV → Heap → Option (List AV × Heap)
  | [], s, H => some (s, H)
  | o :: r, s, H =>
    if o.wanted s then (o.op.run E cl s H).bind fun p => runOps E cl r (putA s o.dst p.1) p.2
    else runOps E cl r (putA s o.dst undef) H

/-! ### A region whose order is open -/
/-- Does it turn the heap, or run code? -/
def ROp.loud : ROp → Bool
  | .store .. | .mapupd .. | .mapent .. | .entst .. | .call .. | .fcall .. | .app .. | .appz .. | .copy .. | .clear .. | .ustr .. => true
  | _ => false
/-- Does it make a block, and nothing else? -/
def ROp.isAlloc : ROp → Bool
  | .box _ | .bslice .. | .mkmap => true
  | _ => false
/-- The block that it reads, if it reads one. -/
def ROp.foot (E : Env) (s : List AV) (H : Heap) : ROp → Option Nat
  | .load _ a => match a.ev E s with | .ptr b _ => some b | _ => none
  | .lookup _ _ m _ _ => match m.ev E s with | .map b => some b | _ => none
  | .len _ x => match x.ev E s with | .map b => some b | _ => none
  | .toStr _ x => match x.ev E s with | .sl b _ _ _ => some b | _ => none
  | _ => none
def ROp.usesL : List RX → List Nat
  | [] => []
  | .t n :: r => n :: usesL r
  | _ :: r => usesL r
def ROp.xs : ROp → List RX
  | .mov x | .box x | .load _ x | .nilchk x | .un _ x | .toInt _ x | .toStr _ x | .faddr _ x | .field _ _ x | .ext x _ | .mkif _ x | .len _ x | .cap x | .clear _ x | .sdata x => [x]
  | .pick c a b => [c, a, b]
  | .build _ ps | .bslice _ _ _ _ ps => ps.map (·.2.2)
  | .store _ a v => [a, v]
  | .bin _ x y | .eq _ _ x y | .iaddr _ x y | .aaddr _ _ x y | .index _ _ x y | .app _ _ _ x y | .appz _ _ _ _ x y | .copy _ x y | .min x y | .max x y | .ustr x y => [x, y]
  | .mkfn _ cp => cp
  | .mkmap => []
  | .slice _ x a b c => x :: (a.toList ++ b.toList ++ c.toList)
  | .lookup _ _ m k _ | .mapent _ _ m k => [m, k]
  | .mapupd _ m k v | .entst m k v => [m, k, v]
  | .call f args => f :: args
  | .fcall _ args => args
def RO.uses (o : RO) : List Nat := ROp.usesL o.op.xs ++ (o.guard.map (·.1)).toList

/-- Each operation's forerunners, as bits. -/
def prefs : List RO → List Nat → List Nat
  | [], acc => acc
  | o :: r, acc => prefs r (acc ++ [o.after.foldl (fun m j => m ||| 2 ^ j ||| acc.getD j 0) 0])
def ordered (pre : List Nat) (i j : Nat) : Bool := (pre.getD j 0).testBit i || (pre.getD i 0).testBit j
/-- What is asked of the region itself: all edges lead back; loud operations stand in line; what makes a block stands in line with the loud ones ahead of it; who names a slot that another one writes stands in line with that one. -/
def drawOk (ops : List RO) : Bool :=
  let pre := prefs ops []
  let iops := ops.zipIdx
  iops.all (fun p => p.1.after.all (· < p.2)) &&
  iops.all fun p => iops.all fun q =>
    p.2 == q.2 || ordered pre p.2 q.2 ||
    (!(p.1.op.loud && q.1.op.loud) && !(p.1.op.isAlloc && q.1.op.loud && decide (q.2 < p.2)) && (match p.1.dst with | some d => !q.1.uses.contains d && q.1.dst != some d | none => true))
/-- The pairs (i, l): i reads, l is loud, and nothing says which comes first. -/
def drawPairs (ops : List RO) : List (Nat × Nat) :=
  let pre := prefs ops []
  ops.zipIdx.flatMap fun p => (ops.zipIdx.filter fun q => !p.1.op.loud && q.1.op.loud && !ordered pre p.2 q.2).map fun q => (p.2, q.2)

structure Tr where
  foot : Option Nat
  before : Heap
  after : Heap
def runTr (E : Env) (cl : Nat → List AV → Heap → Option (AV × Heap)) : List RO → List AV → Heap → Option (List AV × Heap × List Tr)
  | [], s, H => some (s, H, [])
  | o :: r, s, H =>
    if o.wanted s then (o.op.run E cl s H).bind fun p => (runTr E cl r (putA s o.dst p.1) p.2).map fun q => (q.1, q.2.1, ⟨o.op.foot E s H, H, p.2⟩ :: q.2.2)
    else (runTr E cl r (putA s o.dst undef) H).map fun q => (q.1, q.2.1, ⟨none, H, H⟩ :: q.2.2)
/-- What i reads is the same ahead of l and behind it. -/
def pairOk [DecidableEq Blk] (tr : List Tr) (p : Nat × Nat) : Bool :=
  match tr[p.1]?, tr[p.2]? with
  | some ti, some tl => match ti.foot with
    | none => true
    | some b => decide (tl.before.length ≤ b) || decide (tl.after[b]? = tl.before[b]?)
  | _, _ => true

/-- The two orders of the last two. -/
def r2A (pre : List RO) (x y : RO) : List RO := pre ++ [x, { y with after := pre.length :: y.after }]
def r2B (pre : List RO) (x y : RO) : List RO := pre ++ [y, { x with after := pre.length :: x.after }]
def r2Ok (pre : List RO) (x y : RO) : Bool := drawOk (r2A pre x y) && drawOk (r2B pre x y) && x.op.loud && y.op.loud && x.dst.isNone && y.dst.isNone
def exec [DecidableEq Blk] (E : Env) (cl : Nat → List AV → Heap → Option (AV × Heap)) : Nat → RC → List AV → Heap → Option (Out × List AV × Heap)
  | _, .skip, s, H => some (.normal, s, H)
  | _, .region ops false, s, H => (runOps E cl ops s H).map fun p => (.normal, p.1, p.2)
  | _, .region ops true, s, H =>
    if drawOk ops then (runTr E cl ops s H).bind fun p => if p.2.2.all (fun t => decide (t.before.length ≤ t.after.length)) && (drawPairs ops).all (pairOk p.2.2) then some (.normal, p.1, p.2.1) else none else none
  | _, .region2 pre x y, s, H =>
    if r2Ok pre x y then (runTr E cl (r2A pre x y) s H).bind fun p => (runTr E cl (r2B pre x y) s H).bind fun q =>
      if (p.2.2.all (fun t => decide (t.before.length ≤ t.after.length)) && (drawPairs (r2A pre x y)).all (pairOk p.2.2)) && (q.2.2.all (fun t => decide (t.before.length ≤ t.after.length)) && (drawPairs (r2B pre x y)).all (pairOk q.2.2)) && decide (q.2.1 = p.2.1) then some (.normal, p.1, p.2.1) else none else none
  | k, .seq a b, s, H => (exec E cl k a s H).bind fun p => match p.1 with
    | .normal => exec E cl k b p.2.1 p.2.2
    | _ => some p
  | k, .cond c a b, s, H => match c.ev E s with
    | .bool true => exec E cl k a s H
    | .bool false => exec E cl k b s H
    | _ => none
  | k, .block id a, s, H => (exec E cl k a s H).map fun p => match p.1 with
    | .exit j => if j = id then (.normal, p.2) else p
    | _ => p
  | _, .exit id, s, H => some (.exit id, s, H)
  | _, .ret, s, H => some (.ret, s, H)
  | k, .loop a, s, H => rounds k (exec E cl k a) s H
where
  rounds (k : Nat) (body : List AV → Heap → Option (Out × List AV × Heap)) (s : List AV) (H : Heap) : Option (Out × List AV × Heap) :=
    match k with
    | 0 => none
    | k + 1 => (body s H).bind fun p => match p.1 with
      | .normal => rounds k body p.2.1 p.2.2
      | _ => some p

def resOf (s : List AV) (H : Heap) : List RRes → Option (List AV)
  | [] => some []
  | .tmp t :: r => (resOf s H r).map (s.getD t undef :: ·)
  | .cell t sh :: r => (loadA sh (s.getD t undef) H).bind fun v => (resOf s H r).map (v :: ·)
def packA : List AV → AV
  | [v] => v
  | vs => .tup vs

def bodyF [DecidableEq Blk] (E : Env) (cl : Nat → List AV → Heap → Option (AV × Heap)) (k : Nat) (f : RF) (args : List AV) (H : Heap) : Option (AV × Heap) :=
  (exec E cl k f.body (args ++ List.replicate (f.nt - args.length) undef) H).bind fun p =>
    match p.1 with
    | .exit _ => none
    | _ => (resOf p.2.1 p.2.2 f.res).map fun vs => (packA vs, p.2.2)

def callF [DecidableEq Blk] (E : Env) : Nat → Nat → List AV → Heap → Option (AV × Heap)
  | 0, _, _, _ => none
  | k + 1, g, args, H =>
    match E.prim g with
    | some p => p args H
    | none => match E.fn g with
      | none => none
      | some f =>
        if f.iso then
          (pubL false k H args).bind fun args' => (bodyF E (callF E k) k f args' []).bind fun r => (pub (!AV.noIdsL args) k r.2 r.1).map fun v => (v, H)
        else bodyF E (callF E k) k f args H

end Go.AM

/- Equality of the A-machine's values and blocks can be decided. -/
namespace Go.AM
mutual
def AV.beq : AV → AV → Bool
  | .bool a, .bool b => a == b
  | .int k a, .int l b => decide (k = l) && decide (a = b)
  | .str a, .str b => decide (a = b)
  | .nilp, .nilp => true
  | .ptr a o, .ptr b p => a == b && o == p
  | .dptr a, .dptr b => AV.beqL a b
  | .nils, .nils => true
  | .sl a o n s, .sl b p m t => a == b && o == p && n == m && decide (s = t)
  | .data a, .data b => AV.beqL a b
  | .nilm, .nilm => true
  | .map a, .map b => a == b
  | .dmap a c, .dmap b d => AV.beqL a b && AV.beqL c d
  | .nilf, .nilf => true
  | .fn g a, .fn h b => g == h && AV.beqL a b
  | .nili, .nili => true
  | .iface t a, .iface u b => t == u && AV.beq a b
  | .agg a, .agg b => AV.beqL a b
  | .tup a, .tup b => AV.beqL a b
  | _, _ => false
def AV.beqL : List AV → List AV → Bool
  | [], [] => true
  | a :: r, b :: q => AV.beq a b && AV.beqL r q
  | _, _ => false
end
mutual
theorem AV.beq_refl : ∀ a, AV.beq a a = true
  | .bool _ | .int _ _ | .str _ | .nilp | .ptr _ _ | .nils | .sl _ _ _ _ | .nilm | .map _ | .nilf | .nili => by simp [AV.beq]
  | .dptr l | .data l | .agg l | .tup l | .fn _ l => by simp [AV.beq, AV.beqL_refl l]
  | .dmap k v => by simp [AV.beq, AV.beqL_refl k, AV.beqL_refl v]
  | .iface _ v => by simp [AV.beq, AV.beq_refl v]
theorem AV.beqL_refl : ∀ l, AV.beqL l l = true
  | [] => rfl
  | a :: r => by simp [AV.beqL, AV.beq_refl a, AV.beqL_refl r]
end
mutual
theorem AV.eq_of_beq : ∀ a b, AV.beq a b = true → a = b
  | .bool a, b, h => by cases b <;> simp_all [AV.beq]
  | .int k a, b, h => by cases b <;> simp_all [AV.beq]
  | .str a, b, h => by cases b <;> simp_all [AV.beq]
  | .nilp, b, h => by cases b <;> simp_all [AV.beq]
  | .ptr a o, b, h => by cases b <;> simp_all [AV.beq]
  | .nils, b, h => by cases b <;> simp_all [AV.beq]
  | .sl a o n s, b, h => by cases b <;> simp_all [AV.beq]
  | .nilm, b, h => by cases b <;> simp_all [AV.beq]
  | .map a, b, h => by cases b <;> simp_all [AV.beq]
  | .nilf, b, h => by cases b <;> simp_all [AV.beq]
  | .nili, b, h => by cases b <;> simp_all [AV.beq]
  | .dptr l, b, h => by cases b <;> simp [AV.beq] at h; rw [AV.eqL_of_beqL _ _ h]
  | .data l, b, h => by cases b <;> simp [AV.beq] at h; rw [AV.eqL_of_beqL _ _ h]
  | .agg l, b, h => by cases b <;> simp [AV.beq] at h; rw [AV.eqL_of_beqL _ _ h]
  | .tup l, b, h => by cases b <;> simp [AV.beq] at h; rw [AV.eqL_of_beqL _ _ h]
  | .fn g l, b, h => by cases b <;> simp [AV.beq] at h; rw [AV.eqL_of_beqL _ _ h.2, h.1]
  | .dmap k v, b, h => by cases b <;> simp [AV.beq] at h; rw [AV.eqL_of_beqL _ _ h.1, AV.eqL_of_beqL _ _ h.2]
  | .iface t v, b, h => by cases b <;> simp [AV.beq] at h; rw [AV.eq_of_beq _ _ h.2, h.1]
theorem AV.eqL_of_beqL : ∀ l m, AV.beqL l m = true → l = m
  | [], m, h => by cases m <;> simp_all [AV.beqL]
  | a :: r, m, h => by
    cases m with
    | nil => simp [AV.beqL] at h
    | cons b q => simp [AV.beqL] at h; rw [AV.eq_of_beq _ _ h.1, AV.eqL_of_beqL _ _ h.2]
end
instance : DecidableEq AV := fun a b => if h : AV.beq a b = true then .isTrue (AV.eq_of_beq _ _ h) else .isFalse fun e => h (e ▸ AV.beq_refl a)
instance instDecL : DecidableEq (List AV) := fun a b => if h : AV.beqL a b = true then .isTrue (AV.eqL_of_beqL _ _ h) else .isFalse fun e => h (e ▸ AV.beqL_refl a)
def Blk.beq : Blk → Blk → Bool
  | .dead, .dead => true
  | .cells a, .cells b => AV.beqL a b
  | .arr s t f a, .arr s' t' f' b => s == s' && t == t' && f == f' && AV.beqL a b
  | .map a c, .map b d => AV.beqL a b && AV.beqL c d
  | _, _ => false
theorem Blk.beq_iff (a b : Blk) : Blk.beq a b = true ↔ a = b := by
  constructor
  · intro h
    cases a <;> cases b <;> simp [Blk.beq] at h
    · rfl
    · rw [AV.eqL_of_beqL _ _ h]
    · rw [AV.eqL_of_beqL _ _ h.2, h.1.1.1, h.1.1.2, h.1.2]
    · rw [AV.eqL_of_beqL _ _ h.1, AV.eqL_of_beqL _ _ h.2]
  · rintro rfl
    cases a <;> simp [Blk.beq, AV.beqL_refl]
instance : DecidableEq Blk := fun a b => if h : Blk.beq a b = true then .isTrue ((Blk.beq_iff _ _).1 h) else .isFalse fun e => h ((Blk.beq_iff _ _).2 e)
end Go.AM
