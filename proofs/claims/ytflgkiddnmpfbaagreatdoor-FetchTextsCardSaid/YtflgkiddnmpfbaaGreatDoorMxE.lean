/- M's operations: definitions. -/
import Derived.Test.YtflgkiddnmpfbaaGreatDoorMxD
import Derived.Test.YtflgkiddnmpfbaaGreatDoorGxR
namespace Go.Mx
open Go Go.Gx

def ofConst1 : Value → Option AV
  | .bool b => some (.bool b)
  | .int k n => some (.int k n)
  | .string s => some (.str s.data.toList)
  | .pointer none => some .nilp
  | .slice none 0 0 => some .nils
  | .map none => some .nilm
  | .nilFunc => some .nilf
  | .nilIface => some .nili
  | .func (.func f) first cap => if first.isEmpty = true ∧ cap.isEmpty = true then some (.fn f [] []) else none
  | .tuple cs => if cs.isEmpty = true then some (.tup []) else none
  | _ => none
def ofConsts : List Value → Option (List AV)
  | [] => some []
  | v :: l => match ofConst1 v, ofConsts l with
    | some x, some xs => some (x :: xs)
    | _, _ => none
def ofConst2 : Value → Option AV
  | .agg cs => (ofConsts cs.toList).map .agg
  | v => ofConst1 v
def ofConst : Value → Option AV
  | .iface t v => (ofConst2 v).map (.ifc t)
  | v => ofConst2 v

def mev (P : Program) (env : Arr AV) (h : Heap) : Operand → Option AV
  | .tmp t => env[t]?
  | .const v => ofConst v
  | .global g => if g < P.globals.size then match h[g]? with
      | some (.row cells 0 _ _ _ _) => some (.ptr g 0 0 cells.length)
      | some (.lay cells) => some (.ptr g 0 0 cells.length)
      | some _ => some (.ptr g 0 0 0)
      | none => none
    else none
  | .func f => some (.fn f [] [])
def mevs (e : Operand → Option AV) : List Operand → Option (List AV)
  | [] => some []
  | x :: l => match e x, mevs e l with
    | some v, some vs => some (v :: vs)
    | _, _ => none

def szOf (P : Program) (t : TypeId) : Option Nat := match P.info? t with | some i => some i.size | none => none
def aggT (P : Program) (t : TypeId) : Option Bool := match P.underlying t with
  | some (.struct _) | some (.array _ _) => some true
  | some _ => some false
  | none => none
def zeroOf (P : Program) (t : TypeId) : Option AV := match P.info? t with
  | some i => match i.zero with | some z => ofConst z | none => none
  | none => none

def mint (op : BinOp) (k : IntKind) (a b : Int) : Option AV :=
  match op with
  | .add => some (.int k (k.wrap (a + b)))
  | .sub => some (.int k (k.wrap (a - b)))
  | .mul => some (.int k (k.wrap (a * b)))
  | .quo => if b = 0 then none else some (.int k (k.wrap (a.tdiv b)))
  | .rem => if b = 0 then none else some (.int k (a.tmod b))
  | .and => some (.int k (ibits .and k a b))
  | .or => some (.int k (ibits .or k a b))
  | .xor => some (.int k (ibits .xor k a b))
  | .andNot => some (.int k (ibits .andNot k a b))
  | .lss => some (.bool (decide (a < b)))
  | .leq => some (.bool (decide (a ≤ b)))
  | .gtr => some (.bool (decide (b < a)))
  | .geq => some (.bool (decide (b ≤ a)))
  | .eql => some (.bool (a == b))
  | .neq => some (.bool (a != b))
  | _ => none
def mshift (op : BinOp) (k : IntKind) (a b : Int) : Option AV :=
  if b < 0 then none else match op with
  | .shl => some (.int k (k.wrap (a * 2 ^ (min b.toNat k.bits))))
  | .shr => some (.int k (a.fdiv (2 ^ (min b.toNat k.bits))))
  | _ => none
def mstr (op : BinOp) (a b : List UInt8) : Option AV :=
  match op with
  | .add => if a.length + b.length < 4611686018427387904 then some (.str (a ++ b)) else none
  | .eql => some (.bool (a == b))
  | .neq => some (.bool (a != b))
  | .lss => some (.bool (Op.bytesLess a b))
  | .leq => some (.bool (Op.bytesLess a b || a == b))
  | .gtr => some (.bool !(Op.bytesLess a b || a == b))
  | .geq => some (.bool !(Op.bytesLess a b))
  | _ => none

/-- A part of a struct's or an array's cells. -/
def mpart (P : Program) (t : TypeId) (cs : List AV) (off : Nat) : Option AV :=
  match aggT P t, szOf P t with
  | some true, some n => some (.agg ((cs.drop off).take n))
  | some false, _ => cs[off]?
  | _, _ => none

def wide (P : Program) (t : TypeId) : Bool := match szOf P t with
  | some (_ + 1) => true
  | _ => false
def mall (f : Field → Option Bool) : List Field → Option Bool
  | [] => some true
  | fd :: l => if fd.name ≠ "_" then match f fd with
      | some true => mall f l
      | some false => some false
      | none => none
    else mall f l
def meq (P : Program) : Nat → TypeId → AV → AV → Option Bool
  | 0, _, _, _ => none
  | d + 1, t, x, y =>
    match P.underlying t, x, y with
    | some .bool, .bool a, .bool b => some (a == b)
    | some (.int _), .int k a, .int k' b => if k = k' then some (a == b) else none
    | some .string, .str a, .str b => some (a == b)
    | some (.pointer _), .nilp, .nilp => some true
    | some (.pointer _), .nilp, .ptr .. => some false
    | some (.pointer _), .ptr .., .nilp => some false
    | some (.pointer e), .ptr l o v _, .ptr l' o' v' _ => if l = l' ∧ v = v' ∧ wide P e = true then some (o == o') else none
    | some (.interface _), .nili, .nili => some true
    | some (.interface _), .nili, .ifc .. => some false
    | some (.interface _), .ifc .., .nili => some false
    | some (.interface _), .nili, .opq => some false
    | some (.interface _), .opq, .nili => some false
    | some (.struct fs), .agg xs, .agg ys => if P.stoodInHeld t then none else mall (fun f => match mpart P f.type xs f.offset, mpart P f.type ys f.offset with | some a, some b => meq P d f.type a b | _, _ => none) fs.toList
    | some (.slice _), .nils, .nils => some true
    | some (.slice _), .nils, .sl .. => some false
    | some (.slice _), .sl .., .nils => some false
    | some (.map _ _), .nilm, .nilm => some true
    | some (.map _ _), .nilm, .map _ => some false
    | some (.map _ _), .map _, .nilm => some false
    | some (.func _ _ _), .nilf, .nilf => some true
    | some (.func _ _ _), .nilf, .fn .. => some false
    | some (.func _ _ _), .fn .., .nilf => some false
    | _, _, _ => none

def isC : Operand → Bool
  | .const _ => true
  | _ => false
def guardAB (P : Program) (t : TypeId) (x y : Operand) : AV → AV → Bool
  | .nili, .nili => isC x || isC y
  | .agg _, .agg _ => !(P.eqGuardType P.depth t)
  | _, _ => true
def guardOk (P : Program) (op : BinOp) (t : TypeId) (x y : Operand) (a b : AV) : Bool :=
  match op with
  | .eql | .neq => guardAB P t x y a b
  | _ => true
def mbin (P : Program) (op : BinOp) (t : TypeId) (a b : AV) : Option AV :=
  match a, b with
  | .int k a, .int k' b => match op with
    | .shl => mshift .shl k a b
    | .shr => mshift .shr k a b
    | op => if k = k' then mint op k a b else none
  | .str a, .str b => mstr op a b
  | .any, _ => none
  | _, .any => none
  | .int .i64 a, .iv lo hi => match op with
    | .leq => if a ≤ lo then some (.bool true) else if hi < a then some (.bool false) else none
    | _ => none
  | .iv _ _, _ => none
  | _, .iv _ _ => none
  | a, b => match op with
    | .eql => match meq P 8 t a b with | some r => some (.bool r) | none => none
    | .neq => match meq P 8 t a b with | some r => some (.bool !r) | none => none
    | _ => none

def toByte : AV → Option UInt8
  | .int .u8 n => if 0 ≤ n ∧ n < 256 then some (UInt8.ofNat n.toNat) else none
  | _ => none
def toBytes : List AV → Option (List UInt8)
  | [] => some []
  | x :: l => match toByte x, toBytes l with
    | some b, some bs => some (b :: bs)
    | _, _ => none
def byteAV (c : UInt8) : AV := .int .u8 (c.toNat : Int)

def mconv (P : Program) (s d : TypeId) (x : AV) (h : Heap) : Option (AV × Heap) :=
  match P.underlying s, P.underlying d, x with
  | some _, some (.int k), .int _ n => some (.int k (k.wrap n), h)
  | some _, some .string, .str l => some (.str l, h)
  | some .string, some (.slice e), .str l => match P.underlying e with
    | some (.int .u8) => if l.length < 549755813888 then some (.sl h.length 0 l.length 1 0 false, h ++ [Blk.row (l.map byteAV) 0 0 0 false none]) else none
    | _ => none
  | some (.slice e), some .string, .nils => match P.underlying e with
    | some (.int .u8) => some (.str [], h)
    | _ => none
  | some (.slice e), some .string, .sl loc off len 1 ver _ => match P.underlying e with
    | some (.int .u8) => match rd h loc off ver (off + len) len with
      | some cs => match toBytes cs with | some l => some (.str l, h) | none => none
      | none => none
    | _ => none
  | some (.slice _), some (.slice e), .sl loc off len sz ver clip => if s = d then match P.underlying e, h[loc]? with
    | some (.int .u8), some (.row cells v minv 0 false _) => if minv ≤ ver ∧ 0 < len then some (.sl loc off len sz ver clip, h.set loc (.row cells v minv 0 false none)) else none
    | _, _ => none
    else none
  | some (.pointer t), some .unsafePointer, .ptr loc off ver lim => match h[loc]? with
    | some (.row _ _ minv _ _ _) => if wide P t = true ∧ off < lim ∧ minv ≤ ver then some (.ptr loc off ver lim, h) else none
    | _ => none
  | some .unsafePointer, some (.pointer u), .ptr loc off ver lim => match h[loc]? with
    | some (.row _ _ minv _ _ (some T)) => if T = u ∧ off = 0 ∧ minv ≤ ver ∧ 0 < P.cellsOf u ∧ P.cellsOf u ≤ lim then some (.ptr loc off ver lim, h) else none
    | _ => none
  | _, _, _ => none

/-- Parts laid into cells. -/
def mfill (place : Nat → Option (Nat × Nat)) (cells : List AV) : List (Nat × AV) → Option (List AV)
  | [] => some cells
  | (i, v) :: rest => match place i with
    | none => none
    | some (off, size) => if v.cells.length = size ∧ off + size ≤ cells.length then mfill place (cells.take off ++ v.cells ++ cells.drop (off + size)) rest else none
def mparts (e : Operand → Option AV) : List (Nat × Operand) → Option (List (Nat × AV))
  | [] => some []
  | (i, x) :: l => match e x, mparts e l with
    | some v, some vs => some ((i, v) :: vs)
    | _, _ => none
def mplaces (P : Program) : List Field → Option (List (Nat × Nat))
  | [] => some []
  | f :: l => match szOf P f.type, mplaces P l with
    | some n, some ps => some ((f.offset, n) :: ps)
    | _, _ => none
def mbuild (P : Program) (t : TypeId) (parts : List (Nat × AV)) : Option AV :=
  match zeroOf P t, P.underlying t with
  | some z, some (.struct fs) => match mplaces P fs.toList with
    | some ps => match mfill (ps[·]?) z.cells parts with | some cs => some (.agg cs) | none => none
    | none => none
  | some z, some (.array _ e) => match szOf P e with
    | some n => match mfill (fun i => some (i * n, n)) z.cells parts with | some cs => some (.agg cs) | none => none
    | none => none
  | _, _ => none
def mzeros (z : List AV) (n : Nat) : List AV := (List.range n).map fun i => z.getD (i % z.length) .undef
def mbuildSlice (P : Program) (t : TypeId) (len : Nat) (parts : List (Nat × AV)) (h : Heap) : Option (AV × Heap) :=
  match P.underlying t with
  | some (.slice e) => match szOf P e, zeroOf P e with
    | some (n + 1), some z => if len * (n + 1) ≤ 2 ^ 24 ∧ z.cells.length = n + 1 then
        match mfill (fun i => some (i * (n + 1), n + 1)) (mzeros z.cells (len * (n + 1))) parts with
        | some cs => some (.sl h.length 0 len (n + 1) 0 false, mkRow h cs e)
        | none => none
      else none
    | _, _ => none
  | _ => none
def mmakeSlice (P : Program) (t : TypeId) (l c : AV) (h : Heap) : Option (AV × Heap) :=
  match P.underlying t, l, c with
  | some (.slice e), .int _ l, .int _ c => match P.info? e, zeroOf P e with
    | some i, some z => if 0 ≤ l ∧ l ≤ c ∧ c < 549755813888 ∧ i.bytes ≤ 256 ∧ 0 < i.size ∧ z.cells.length = i.size then
        some (.sl h.length 0 l.toNat i.size 0 false, mkRow h (mzeros z.cells (l.toNat * i.size)) e) else none
    | _, _ => none
  | _, _, _ => none

def mbound (e : Operand → Option AV) : Option Operand → Option (Option Int)
  | none => some none
  | some x => match e x with
    | some (.int _ n) => some (some n)
    | _ => none
def mslice (P : Program) (t : TypeId) (x : AV) (lo hi mx : Option Int) (h : Heap) : Option AV :=
  match P.underlying t, x with
  | some .string, .str l =>
    let a := lo.getD 0; let b := hi.getD l.length
    if mx.isNone = true ∧ 0 ≤ a ∧ a ≤ b ∧ b ≤ l.length then some (.str ((l.drop a.toNat).take (b.toNat - a.toNat))) else none
  | some (.slice e), .nils =>
    if lo.getD 0 = 0 ∧ hi.getD 0 = 0 ∧ mx.getD 0 = 0 ∧ (mx.isSome = true → hi.isSome = true) ∧ (szOf P e).isSome = true then some .nils else none
  | some (.slice e), .sl loc off len sz ver clip => match szOf P e with
    | some n =>
      let a := lo.getD 0; let b := hi.getD len
      if n = sz ∧ 0 ≤ a ∧ a ≤ b ∧ b ≤ len then
        match mx with
        | none => if clip = true ∧ b ≠ len then none else some (.sl loc (off + a.toNat * sz) (b.toNat - a.toNat) sz ver clip)
        | some m => if m = b ∧ hi.isSome = true then some (.sl loc (off + a.toNat * sz) (b.toNat - a.toNat) sz ver true) else none
      else none
    | none => none
  | some (.array n e), .ptr loc off ver lim => match szOf P e, h[loc]? with
    | some (z + 1), some (.row cells 0 _ _ false _) =>
      let a := lo.getD 0; let b := hi.getD n
      if mx.isNone = true ∧ 0 ≤ a ∧ a ≤ b ∧ b ≤ n ∧ ver = 0 ∧ n < 549755813888 ∧ off + n * (z + 1) = cells.length ∧ lim = cells.length then some (.sl loc (off + a.toNat * (z + 1)) (b.toNat - a.toNat) (z + 1) 0 false) else none
    | _, _ => none
  | _, _ => none

def mfieldAddr (P : Program) (s : TypeId) (x : AV) (f : Nat) : Option AV :=
  match P.underlying s, x with
  | some (.struct fs), .ptr loc off ver lim => match fs[f]? with
    | some fd => match szOf P fd.type with
      | some (_ + 1) => some (.ptr loc (off + fd.offset) ver lim)
      | _ => none
    | none => none
  | _, _ => none
def mindexAddr (P : Program) (t : TypeId) (x i : AV) : Option AV :=
  match P.underlying t, x, i with
  | some (.array len e), .ptr loc off ver lim, .int _ n => match szOf P e with
    | some z => if 0 ≤ n ∧ n < len then some (.ptr loc (off + n.toNat * z) ver lim) else none
    | none => none
  | some (.slice e), .sl loc off len sz ver _, .int _ n => match szOf P e with
    | some z => if z = sz ∧ 0 ≤ n ∧ n < len then some (.ptr loc (off + n.toNat * sz) ver (off + len * sz)) else none
    | none => none
  | _, _, _ => none
def mindex (P : Program) (t : TypeId) (x i : AV) : Option AV :=
  match P.underlying t, x, i with
  | some .string, .str l, .int _ n => if 0 ≤ n then match l[n.toNat]? with | some b => some (byteAV b) | none => none else none
  | some (.array len e), .agg cs, .int _ n => match szOf P e with
    | some z => if 0 ≤ n ∧ n < len then mpart P e cs (n.toNat * z) else none
    | none => none
  | _, _, _ => none

/-- Keys of maps. -/
def msame : TypeDesc → AV → AV → Option Bool
  | .int _, .int k a, .int k' b => if k = k' then some (a == b) else none
  | .string, .str a, .str b => some (a == b)
  | .bool, .bool a, .bool b => some (a == b)
  | _, _, _ => none
def keyOk : TypeDesc → AV → Bool
  | .bool, .bool _ => true
  | .int k, .int k' _ => k' == k
  | .string, .str _ => true
  | _, _ => false
def mfind (d : TypeDesc) (k : AV) : List (AV × AV) → Nat → Option (Option (Nat × AV))
  | [], _ => some none
  | p :: l, i => match msame d k p.1 with
    | some true => some (some (i, p.2))
    | some false => mfind d k l (i + 1)
    | none => none
def mentries (m : AV) (h : Heap) : Option (List (AV × AV)) := match m with
  | .nilm => some []
  | .map loc => match h[loc]? with
    | some (.map es) => some es
    | _ => none
  | _ => none
def mlookup (P : Program) (t : TypeId) (m k : AV) (ok : Bool) (h : Heap) : Option AV :=
  match P.underlying t with
  | some (.map kt et) => match P.underlying kt, zeroOf P et with
    | some d, some z =>
      match mentries m h with
      | some es => if keyOk d k = true then match mfind d k es 0 with
        | some (some (_, v)) => some (if ok then .tup [v, .bool true] else v)
        | some none => some (if ok then .tup [z, .bool false] else z)
        | none => none
        else none
      | none => none
    | _, _ => none
  | _ => none
def mput (P : Program) (t : TypeId) (m k v : AV) (h : Heap) : Option Heap :=
  match P.underlying t, m with
  | some (.map kt _), .map loc => match P.underlying kt, h[loc]? with
    | some d, some (.map es) => if keyOk d k = true then match mfind d k es 0 with
      | some (some (i, _)) => some (h.set loc (.map (es.set i (k, v))))
      | some none => some (h.set loc (.map (es ++ [(k, v)])))
      | none => none
      else none
    | _, _ => none
  | _, _ => none
def mdelete (P : Program) (t : TypeId) (m k : AV) (h : Heap) : Option Heap :=
  match P.underlying t, m with
  | some (.map kt _), .map loc => match P.underlying kt, h[loc]? with
    | some d, some (.map es) => if keyOk d k = true then match mfind d k es 0 with
      | some (some (i, _)) => some (h.set loc (.map (es.eraseIdx i)))
      | some none => some (h.set loc (.map es))
      | none => none
      else none
    | _, _ => none
  | _, _ => none

/-- What is called: a function, or the round of a loop. -/
inductive Cal where
  | f (f : FuncId)
  | y (loc : Nat)
inductive Rs where
  | val (v : AV) (h : Heap)
  | unit (h : Heap)
  | call (f : Cal) (args : List AV)
  | dfr (f : FuncId) (args cap : List AV)

def rv (h : Heap) : Option AV → Option Rs
  | some v => some (.val v h)
  | none => none
def rvh : Option (AV × Heap) → Option Rs
  | some (v, h) => some (.val v h)
  | none => none
def ru : Option Heap → Option Rs
  | some h => some (.unit h)
  | none => none

def mlen (P : Program) (t : TypeId) (x : AV) (h : Heap) : Option AV :=
  match P.underlying t, x with
  | some .string, .str l => some (.int .i64 l.length)
  | some (.array n _), _ => some (.int .i64 n)
  | some (.slice _), .nils => some (.int .i64 0)
  | some (.slice _), .sl _ _ len _ _ _ => some (.int .i64 len)
  | some (.map _ _), .nilm => some (.int .i64 0)
  | some (.map _ _), .map loc => match h[loc]? with | some (.map es) => some (.int .i64 es.length) | _ => none
  | _, _ => none
def mappend (P : Program) (t t2 : TypeId) (s x : AV) (h : Heap) : Option (AV × Heap) :=
  match P.underlying t with
  | some (.slice e) => match P.info? e with
    | some i => match i.zero with
      | some z => if z.cells.size = i.size ∧ i.bytes ≤ 256 then
          match P.underlying t2, x with
          | some (.slice _), .nils => app h e s i.size [] 0
          | some (.slice _), .sl loc off len sz ver _ => if sz = i.size then match rd h loc off ver (off + len * sz) (len * sz) with
              | some xs => app h e s i.size xs len
              | none => none
            else none
          | some .string, .str l => if i.size = 1 then app h e s 1 (l.map byteAV) l.length else none
          | _, _ => none
        else none
      | none => none
    | none => none
  | _ => none
def msrc (P : Program) (t2 : TypeId) (z : Nat) (x : AV) (h : Heap) : Option (List AV × Nat) :=
  match P.underlying t2, x with
  | some (.slice _), .nils => some ([], 0)
  | some (.slice _), .sl loc off len sz ver _ => if sz = z then match rd h loc off ver (off + len * sz) (len * sz) with | some xs => some (xs, len) | none => none else none
  | some .string, .str l => if z = 1 then some (l.map byteAV, l.length) else none
  | _, _ => none
def mcopy (P : Program) (t t2 : TypeId) (d x : AV) (h : Heap) : Option (AV × Heap) :=
  match P.underlying t with
  | some (.slice e) => match szOf P e with
    | some z =>
      match d, msrc P t2 z x h with
      | .nils, some (_, _) => some (.int .i64 0, h)
      | .sl loc off len sz ver _, some (xs, n) => if sz = z then
          let k := min n len
          if k = 0 then some (.int .i64 0, h) else match wr h loc off ver (off + len * sz) (xs.take (k * z)) with
          | some h' => some (.int .i64 k, h')
          | none => none
        else none
      | _, _ => none
    | none => none
  | _ => none
def mclear (P : Program) (t : TypeId) (x : AV) (h : Heap) : Option Heap :=
  match P.underlying t, x with
  | some (.slice _), .nils => some h
  | some (.slice e), .sl loc off len sz ver _ => if len = 0 then some h else match zeroOf P e with
    | some z => if z.cells.length = sz then wr h loc off ver (off + len * sz) (mzeros z.cells (len * sz)) else none
    | none => none
  | some (.map _ _), .nilm => some h
  | some (.map _ _), .map loc => match h[loc]? with | some (.map _) => some (h.set loc (.map [])) | _ => none
  | _, _ => none
def mbuiltin (P : Program) (b : Builtin) (ts : List TypeId) (args : List AV) (h : Heap) : Option Rs :=
  match b, ts, args with
  | .len, t :: _, x :: _ => rv h (mlen P t x h)
  | .append, [t, t2], [s, x] => rvh (mappend P t t2 s x h)
  | .copy, [t, t2], [d, x] => rvh (mcopy P t t2 d x h)
  | .max, _, [.int k a, .int _ b] => some (.val (.int k (if b > a then b else a)) h)
  | .min, _, [.int k a, .int _ b] => some (.val (.int k (if b < a then b else a)) h)
  | .cap, t :: _, [x] => match P.underlying t, x with
    | some (.slice _), .nils => some (.val (.int .i64 0) h)
    | some (.slice _), .sl _ _ len _ _ true => some (.val (.int .i64 len) h)
    | _, _ => none
  | .unsafeSliceData, _, [x] => match x with
    | .nils => some (.val .nilp h)
    | .sl loc off len sz ver _ => if 0 < len then some (.val (.ptr loc off ver (off + len * sz)) h) else none
    | _ => none
  | .unsafeString, pt :: _, [x, .int .i64 n] => match P.underlying pt, x with
    | some (.pointer _), .nilp => if n = 0 then some (.val (.str []) h) else none
    | some (.pointer u), .ptr loc off ver lim => if n = 0 then some (.val (.str []) h) else match h[loc]? with
      | some (.row cells v minv frz false (some T)) => if T = u ∧ off = 0 ∧ P.cellsOf u = 1 ∧ 0 < n ∧ n.toNat ≤ 140737488355327 ∧ ver = v then match rd h loc off ver lim n.toNat with
          | some cs => match toBytes cs with
            | some l => some (.val (.str l) (h.set loc (.row cells v minv (max frz n.toNat) false (some T))))
            | none => none
          | none => none
        else none
      | _ => none
    | _, _ => none
  | .clear, [t], [x] => match mclear P t x h with | some h' => some (.val (.tup []) h') | none => none
  | .delete, [t, _], [m, k] => match mdelete P t m k h with | some h' => some (.val (.tup []) h') | none => none
  | _, _, _ => none

def mop (P : Program) (e : Operand → Option AV) (h : Heap) (op : Op) : Option Rs :=
  match op with
  | .move x | .assign x => rv h (e x)
  | .pick c a b => match e c with
    | some (.bool true) => rv h (e a)
    | some (.bool false) => rv h (e b)
    | _ => none
  | .alloc t => match zeroOf P t with
    | some z => some (.val (.ptr h.length 0 0 z.cells.length) (mkRow h z.cells t))
    | none => none
  | .box t x => match e x with
    | some v => some (.val (.ptr h.length 0 0 v.cells.length) (mkRow h v.cells t))
    | none => none
  | .build t parts => match mparts e parts.toList with
    | some ps => rv h (mbuild P t ps)
    | none => none
  | .buildSlice t len parts => match mparts e parts.toList with
    | some ps => rvh (mbuildSlice P t len ps h)
    | none => none
  | .load t x => match e x, aggT P t, szOf P t with
    | some (.ptr loc off ver lim), some true, some n => match rd h loc off ver lim n with | some cs => some (.val (.agg cs) h) | none => none
    | some (.ptr loc off ver lim), some false, _ => match rd h loc off ver lim 1 with | some [v] => some (.val v h) | _ => none
    | _, _, _ => none
  | .store t a x => match e a, e x, szOf P t with
    | some (.ptr loc off ver lim), some v, some n => if v.cells.length = n then ru (wr h loc off ver lim v.cells) else none
    | _, _, _ => none
  | .nilCheck x => match e x with
    | some .nilp | some .nili | some .nilf => none
    | some v => some (.val v h)
    | none => none
  | .binOp op t x y _ => match e x, e y with
    | some a, some b => if guardOk P op t x y a b = true then rv h (mbin P op t a b) else none
    | _, _ => none
  | .unOp u _ x => match u, e x with
    | .neg, some (.int k a) => some (.val (.int k (k.wrap (0 - a))) h)
    | .not, some (.bool b) => some (.val (.bool !b) h)
    | .xor, some (.int k a) => some (.val (.int k (ibits .xor k (if k.signed then -1 else k.max) a)) h)
    | _, _ => none
  | .convert s d x => match e x with
    | some v => rvh (mconv P s d v h)
    | none => none
  | .makeInterface t x => match P.underlying t, e x with
    | some (.interface _), _ => none
    | some _, some v => some (.val (.ifc t v) h)
    | _, _ => none
  | .makeFunc (.func f) first cap => match mevs e first.toList, mevs e cap.toList with
    | some a, some b => some (.val (.fn f a b) h)
    | _, _ => none
  | .makeMap _ none => some (.val (.map h.length) (h ++ [Blk.map []]))
  | .makeSlice t l c => match e l, e c with
    | some a, some b => rvh (mmakeSlice P t a b h)
    | _, _ => none
  | .slice t x lo hi mx => match e x, mbound e lo, mbound e hi, mbound e mx with
    | some v, some a, some b, some c => rv h (mslice P t v a b c h)
    | _, _, _, _ => none
  | .fieldAddr s x f => match e x with
    | some v => rv h (mfieldAddr P s v f)
    | none => none
  | .field t x f => match P.underlying t, e x with
    | some (.struct fs), some (.agg cs) => match fs[f]? with
      | some fd => rv h (mpart P fd.type cs fd.offset)
      | none => none
    | _, _ => none
  | .indexAddr t x i => match e x, e i with
    | some a, some b => rv h (mindexAddr P t a b)
    | _, _ => none
  | .index t x i => match e x, e i with
    | some a, some b => rv h (mindex P t a b)
    | _, _ => none
  | .lookup t m k ok => match e m, e k with
    | some a, some b => rv h (mlookup P t a b ok h)
    | _, _ => none
  | .mapUpdate t m k v | .insert t m k v => match e m, e k, e v with
    | some a, some b, some c => ru (mput P t a b c h)
    | _, _, _ => none
  | .typeAssert x _ t true => match P.underlying t, e x with
    | some (.interface _), _ => none
    | some _, some (.ifc t' v) => if t' = t then some (.val (.tup [v, .bool true]) h) else match zeroOf P t with
      | some z => some (.val (.tup [z, .bool false]) h)
      | none => none
    | some _, some .nili => match zeroOf P t with
      | some z => some (.val (.tup [z, .bool false]) h)
      | none => none
    | _, _ => none
  | .range t x => match P.underlying t, e x with
    | some (.map _ _), some .nilm => some (.val (.ptr h.length 0 0 0) (h ++ [Blk.miter none]))
    | some (.map _ _), some (.map loc) => match h[loc]? with
      | some (.map _) => some (.val (.ptr h.length 0 0 0) (h ++ [Blk.miter (some loc)]))
      | _ => none
    | _, _ => none
  | .next x false => match e x with
    | some (.ptr loc 0 0 0) => match h[loc]? with
      | some (.miter none) => some (.val (.tup [.bool false]) h)
      | some (.miter (some l)) => match h[l]? with
        | some (.map []) => some (.val (.tup [.bool false]) h)
        | _ => none
      | _ => none
    | _ => none
  | .extract x i => match e x with
    | some (.tup l) => rv h l[i]?
    | _ => none
  | .call c => match c.callee, mevs e c.args.toList with
    | .value f, some args => match e f with
      | some (.fn f first cap) => some (.call (.f f) (first ++ args ++ cap))
      | some (.yld loc) => some (.call (.y loc) args)
      | _ => none
    | .builtin b, some args => mbuiltin P b c.argTypes.toList args h
    | _, _ => none
  | .defer c => match c.callee, mevs e c.args.toList with
    | .value f, some args => match e f with
      | some (.fn f first cap) => some (.dfr f (first ++ args) cap)
      | _ => none
    | _, _ => none
  | _ => none
end Go.Mx
