/- The operations, on what is known ('stp'): one step, where the text's operation is one of those treated here. -/
import Derived.Test.YtcnbkfgajnlbpaaNxA
import Derived.Laws.AppendOwn
import Derived.Laws.AppendOwnNone
import Derived.Laws.MakeOwn
import Derived.Laws.StructEq
import Derived.Laws.Tables
namespace Go.Nx
set_option linter.unusedVariables false
set_option linter.unusedSimpArgs false

abbrev Env := List (Nat × AVal)
def Env.get : Env → Nat → Option AVal
  | [], _ => none
  | (t, x) :: r, s => if t = s then some x else Env.get r s
abbrev unit : AVal := .tup []

/-! What the tables say: each a closed fact. -/
def tk (P : Program) (t : TypeId) : Option (Bool × Nat) :=
  match P.underlying t, P.info? t with
  | some d, some i => some ((match d with | .struct _ | .array _ _ => true | _ => false), i.size)
  | _, _ => none
/-- A field: its place, its size, whether it is a struct or an array. -/
def fo (P : Program) (s : TypeId) (f : Nat) : Option (Nat × Nat × Bool) :=
  match P.underlying s with
  | some (.struct fs) => match fs[f]? with
    | some fd => (tk P fd.type).map fun (g, n) => (fd.offset, n, g)
    | none => none
  | _ => none
def leaves (v : Value) : Option (List Leaf) := if v.cells.toList.all (·.oneCell') then some (v.cells.toList.map .v) else none
/-- A type's zero cells. -/
def zc (P : Program) (t : TypeId) : Option (List Leaf) :=
  match P.info? t with
  | some i => match i.zero with
    | some z => if z.cells.size = i.size then leaves z else none
    | none => none
  | none => none
/-- A slice type's element: its type, size, bytes, zero cells. -/
def se (P : Program) (t : TypeId) : Option (TypeId × Nat × Nat × List Leaf) :=
  match P.underlying t with
  | some (.slice e) => match P.info? e, zc P e with
    | some i, some z => some (e, i.size, i.bytes, z)
    | _, _ => none
  | _ => none
/-- An array type: its length, its elements' size, whether they are structs or arrays. -/
def ar (P : Program) (t : TypeId) : Option (Nat × Nat × Bool) :=
  match P.underlying t with
  | some (.array n e) => (tk P e).map fun (g, s) => (n, s, g)
  | _ => none
/-- A composite: zero cells, and the parts' places. -/
def cm (P : Program) (t : TypeId) : Option (List Leaf × List (Nat × Nat)) :=
  match P.underlying t with
  | some (.struct fs) => match zc P t, fs.toList.mapM (fun f => (P.info? f.type).map fun i => (f.offset, i.size)) with
    | some z, some ps => some (z, ps)
    | _, _ => none
  | some (.array n e) => match zc P t, P.info? e with
    | some z, some i => some (z, (List.range n).map fun k => (k * i.size, i.size))
    | _, _ => none
  | _ => none
def ik (P : Program) (t : TypeId) : Option IntKind :=
  match P.underlying t with
  | some (.int k) => some k
  | _ => none
inductive Sh | int | bool | str
def shpFs (P : Program) (rec : TypeId → Option (List Sh)) : Nat → List Field → Option (List Sh)
  | _, [] => some []
  | off, f :: fs => if f.name ≠ "_" ∧ f.offset = off then match rec f.type, tk P f.type with
    | some s, some (_, n) => if n = s.length ∧ 0 < n then (shpFs P rec (off + s.length) fs).map (s ++ ·) else none
    | _, _ => none
    else none
/-- The shape of a type whose values are compared cell by cell. -/
def shp (P : Program) : Nat → TypeId → Option (List Sh)
  | 0, _ => none
  | d + 1, t => match P.underlying t with
    | some (.int _) => some [.int]
    | some .bool => some [.bool]
    | some .string => some [.str]
    | some (.struct fs) => if P.stoodInHeld t then none else shpFs P (shp P d) 0 fs.toList
    | _ => none
def eqs (P : Program) (t : TypeId) : Option (List Sh) :=
  match P.underlying t with
  | some (.struct _) => if P.eqGuardType P.depth t then none else shp P 8 t
  | _ => none

/-! The parts of a value. -/
def AVal.cells : AVal → Option (List Leaf)
  | .c l => some [l]
  | .agg cs => some cs
  | .tup _ => none
def putSeg {α : Type} (r : List α) (k : Nat) : List α → List α
  | [] => r
  | l :: ls => putSeg (r.set k l) (k + 1) ls
def fillL (places : List (Nat × Nat)) (cells : List Leaf) : List (Nat × Option AVal) → Option (List Leaf)
  | [] => some cells
  | (i, x) :: rest => match places[i]?, x with
    | some (off, size), some x => match x.cells with
      | some cs => if cs.length = size ∧ off + size ≤ cells.length then fillL places (putSeg cells off cs) rest else none
      | none => none
    | _, _ => none
def rowsL (size : Nat) (rows : List (List Leaf)) : List (Nat × Option AVal) → Option (List (List Leaf))
  | [] => some rows
  | (i, x) :: rest => match x with
    | some x => match x.cells with
      | some cs => if cs.length = size ∧ i < rows.length then rowsL size (rows.set i cs) rest else none
      | none => none
    | none => none
def seg (r : List Leaf) (k n : Nat) : List Leaf := (r.drop k).take n
/-- The rows of an object that is there. -/
def obj (H : List Ob) (h ver : Nat) : Option (Nat × List (List Leaf)) :=
  match H[h]? with
  | some (.live v z rows) => if v = ver then some (z, rows) else none
  | _ => none
def ldN (H : List Ob) (n : Nat) : Leaf → Option (List Leaf)
  | .ptr h ver i k => match obj H h ver with
    | some (_, rows) => match rows[i]? with
      | some r => if k + n ≤ r.length then some (seg r k n) else none
      | none => none
    | none => none
  | .fptr rows i k => match rows[i]? with
    | some r => if k + n ≤ r.length then some (seg r k n) else none
    | none => none
  | _ => none
def ld1 (H : List Ob) : Leaf → Option Leaf
  | .ptr h ver i k => match obj H h ver with
    | some (_, rows) => match rows[i]? with
      | some r => r[k]?
      | none => none
    | none => none
  | .fptr rows i k => match rows[i]? with
    | some r => r[k]?
    | none => none
  | _ => none
/-- The elements that a slice shows. -/
def view (H : List Ob) : Leaf → Option (List (List Leaf))
  | .slv rows => some rows
  | .slq rows => some rows
  | .v (.slice none 0 0) => some []
  | .sl h ver lo len => match obj H h ver with
    | some (_, rows) => if lo + len ≤ rows.length then some ((rows.drop lo).take len) else none
    | none => none
  | _ => none
def lenL : Leaf → Option Nat
  | .slv rows => some rows.length
  | .slq rows => some rows.length
  | .v (.slice none 0 0) => some 0
  | .sl _ _ _ len => some len
  | _ => none
def intL : AVal → Option Int
  | .c (.v (.int _ n)) => some n
  | _ => none

def evO (e : Env) : Operand → Option AVal
  | .tmp t => e.get t
  | .const v => match v with
    | .agg cs => (leaves (.agg cs)).map .agg
    | .tuple _ => none
    | v => some (.c (.v v))
  | .func f => some (.c (.clo f []))
  | .global _ => none

def eq1 : Sh → Leaf → Leaf → Option Bool
  | .int, .v (.int k a), .v (.int k' b) => if k = k' then some (a == b) else none
  | .bool, .v (.bool a), .v (.bool b) => some (a == b)
  | .str, .v (.string a), .v (.string b) => some (a.toList == b.toList)
  | _, _, _ => none
def eqCells : List Sh → List Leaf → List Leaf → Option Bool
  | [], [], [] => some true
  | s :: ss, a :: as, b :: bs => match eq1 s a b, eqCells ss as bs with
    | some x, some y => some (x && y)
    | _, _ => none
  | _, _, _ => none

def intBin (op : BinOp) (k : IntKind) (a b : Int) : Option Leaf :=
  match op with
  | .add => some (.v (.int k (k.wrap (a + b))))
  | .sub => some (.v (.int k (k.wrap (a - b))))
  | .mul => some (.v (.int k (k.wrap (a * b))))
  | .quo => if b = 0 then none else some (.v (.int k (k.wrap (a.tdiv b))))
  | .rem => if b = 0 then none else some (.v (.int k (a.tmod b)))
  | .eql => some (.v (.bool (a == b)))
  | .neq => some (.v (.bool (a != b)))
  | .lss => some (.v (.bool (decide (a < b))))
  | .leq => some (.v (.bool (decide (a ≤ b))))
  | .gtr => some (.v (.bool (decide (a > b))))
  | .geq => some (.v (.bool (decide (a ≥ b))))
  | _ => none

def isNilS : Leaf → Bool
  | .v (.slice none 0 0) => true
  | _ => false
/-- Is a slice nil? -/
def nilB (H : List Ob) : Leaf → Option Bool
  | .slv rows => match rows with | _ :: _ => some false | [] => none
  | .slq _ => some false
  | .v (.slice none 0 0) => some true
  | .sl h ver _ len => match obj H h ver with
    | some _ => if 0 < len then some false else none
    | none => none
  | _ => none

def binV (P : Program) (H : List Ob) (op : BinOp) (t : TypeId) : AVal → AVal → Option Leaf
  | .c (.v (.int k a)), .c (.v (.int k' b)) => if k = k' then intBin op k a b else none
  | .c (.v (.bool a)), .c (.v (.bool b)) => match P.underlying t with
    | some .bool => match op with
      | .eql => some (.v (.bool (a == b)))
      | .neq => some (.v (.bool (!(a == b))))
      | _ => none
    | _ => none
  | .agg as, .agg bs => match eqs P t with
    | some s => match op with
      | .eql => (eqCells s as bs).map fun b => .v (.bool b)
      | .neq => (eqCells s as bs).map fun b => .v (.bool (!b))
      | _ => none
    | none => none
  | .c a, .c b => if isNilS b then match P.underlying t with
      | some (.slice _) => match op with
        | .eql => (nilB H a).map fun b => .v (.bool b)
        | .neq => (nilB H a).map fun b => .v (.bool (!b))
        | _ => none
      | _ => none
    else none
  | _, _ => none

def sliceV (P : Program) (H : List Ob) (t : TypeId) (x : Leaf) (lo hi : Option Int) : Option Leaf :=
  match se P t, lenL x with
  | some (_, size, _), some n =>
    if 0 ≤ lo.getD 0 ∧ lo.getD 0 ≤ hi.getD (n : Int) ∧ hi.getD (n : Int) ≤ (n : Int) then match x with
      | .slv rows => if ∀ r ∈ rows, r.length = size then some (.slv ((rows.take (hi.getD (n : Int)).toNat).drop (lo.getD 0).toNat)) else none
      | .slq rows => if ∀ r ∈ rows, r.length = size then some (.slq ((rows.take (hi.getD (n : Int)).toNat).drop (lo.getD 0).toNat)) else none
      | .sl hd ver lo0 _ => match obj H hd ver with
        | some (z, _) => if z = size then some (.sl hd ver (lo0 + (lo.getD 0).toNat) ((hi.getD (n : Int)).toNat - (lo.getD 0).toNat)) else none
        | none => none
      | .v (.slice none 0 0) => some nilS
      | _ => none
    else none
  | _, _ => none

def optInt (e : Env) : Option Operand → Option (Option Int)
  | none => some none
  | some x => match evO e x with
    | some v => (intL v).map some
    | none => none

def indexAddrV (P : Program) (H : List Ob) (t : TypeId) (x : Leaf) (i : Int) : Option Leaf :=
  match x with
  | .sl h ver lo len => match se P t, obj H h ver with
    | some (_, size, _), some (z, rows) => if 0 ≤ i ∧ i < len ∧ z = size ∧ lo + i.toNat < rows.length then some (.ptr h ver (lo + i.toNat) 0) else none
    | _, _ => none
  | .ptr h ver r k => match ar P t, obj H h ver with
    | some (n, size, _), some _ => if 0 ≤ i ∧ i < n then some (.ptr h ver r (k + i.toNat * size)) else none
    | _, _ => none
  | x => match se P t, view H x with
    | some (_, size, _), some rows => if 0 ≤ i ∧ i < rows.length then match rows[i.toNat]? with
        | some r => if r.length = size then some (.fptr rows i.toNat 0) else none
        | none => none
      else none
    | _, _ => none

def mkSeg (g : Bool) (cs : List Leaf) (off n : Nat) : Option AVal :=
  if g then (if off + n ≤ cs.length then some (.agg (seg cs off n)) else none) else cs[off]?.map .c

def pickV (b : Bool) (x y : AVal) : AVal :=
  match x, y with
  | .c (.v (.bool p)), .c (.v (.bool q)) => .c (.v (.bool (bif b then p else q)))
  | x, y => bif b then x else y

def leafL : List (Option AVal) → Option (List Leaf)
  | [] => some []
  | some (.c l) :: r => (leafL r).map (l :: ·)
  | _ :: _ => none

def foldI (f : Int → Int → Int) (acc : Int) : List (Option AVal) → Option Int
  | [] => some acc
  | some (.c (.v (.int _ n))) :: r => foldI f (f acc n) r
  | _ => none
def foldInt (f : Int → Int → Int) : List (Option AVal) → Option Int
  | some (.c (.v (.int .i64 n))) :: r => foldI f n r
  | _ => none

/-- Append, to what the call owns or to nothing. -/
def appendV (P : Program) (H : List Ob) (t t' : TypeId) (s x : Leaf) : Option (AVal × List Ob) :=
  match se P t, view H x with
  | some (_, size, bytes, _), some ys =>
    if t = t' ∧ 0 < size ∧ (∀ r ∈ ys, r.length = size) then match s with
      | .v (.slice none 0 0) => if ys.length ≤ maxLen ∧ ys.length * bytes ≤ 140737488355328 then some (.c (.sl H.length 0 0 ys.length), H ++ [.live 0 size ys]) else none
      | .sl h ver lo len => match obj H h ver with
        | some (z, rows) => if lo + len ≤ rows.length ∧ z = size ∧ len + ys.length ≤ maxLen ∧ (len + ys.length) * bytes ≤ 140737488355328 then
            some (.c (.sl h (ver + 1) 0 (len + ys.length)), H.set h (.live (ver + 1) size ((rows.drop lo).take len ++ ys))) else none
        | none => none
      | _ => none
    else none
  | _, _ => none

def stp (P : Program) (e : Env) (H : List Ob) : Op → Option (AVal × List Ob)
  | .move x | .assign x => (evO e x).map (·, H)
  | .pick c a b => match evO e c, evO e a, evO e b with
    | some (.c (.v (.bool t))), some x, some y => some (pickV t x y, H)
    | _, _, _ => none
  | .alloc t => match zc P t with
    | some (z :: zs) => some (.c (.ptr H.length 0 0 0), H ++ [.live 0 (zs.length + 1) [z :: zs]])
    | _ => none
  | .box _ x => match evO e x with
    | some v => match v.cells with
      | some (z :: zs) => some (.c (.ptr H.length 0 0 0), H ++ [.live 0 (zs.length + 1) [z :: zs]])
      | _ => none
    | none => none
  | .build t ps => match cm P t with
    | some (z, places) => (fillL places z (ps.toList.map fun (i, x) => (i, evO e x))).map fun cs => (.agg cs, H)
    | none => none
  | .buildSlice t n ps => match se P t with
    | some (_, size, _, z) => if 0 < size ∧ n * size ≤ 16777216 ∧ z.length = size ∧ n ≤ maxLen then
        (rowsL size (List.replicate n z) (ps.toList.map fun (i, x) => (i, evO e x))).map fun rows => (.c (.sl H.length 0 0 n), H ++ [.live 0 size rows]) else none
    | none => none
  | .makeSlice t l c => match se P t, evO e l, evO e c with
    | some (_, size, bytes, z), some (.c (.v (.int _ n))), some (.c (.v (.int _ m))) =>
      if 0 < size ∧ z.length = size ∧ 0 ≤ n ∧ n = m ∧ (bytes : Int) * n ≤ 281474976710656 ∧ n ≤ maxLen then some (.c (.sl H.length 0 0 n.toNat), H ++ [.live 0 size (List.replicate n.toNat z)]) else none
    | _, _, _ => none
  | .load t a => match tk P t, evO e a with
    | some (true, n), some (.c p) => (ldN H n p).map fun cs => (.agg cs, H)
    | some (false, _), some (.c p) => (ld1 H p).map fun l => (.c l, H)
    | _, _ => none
  | .store t a x => match tk P t, evO e a, evO e x with
    | some (_, n), some (.c (.ptr h ver i k)), some v => match v.cells, obj H h ver with
      | some cs, some (z, rows) => if cs.length = n then match rows[i]? with
          | some r => if k + n ≤ r.length then some (unit, H.set h (.live ver z (rows.set i (putSeg r k cs)))) else none
          | none => none
        else none
      | _, _ => none
    | _, _, _ => none
  | .nilCheck x => match evO e x with
    | some (.c (.ptr h ver i k)) => (obj H h ver).map fun _ => (.c (.ptr h ver i k), H)
    | some (.c (.fptr rows i k)) => some (.c (.fptr rows i k), H)
    | some (.c (.clo f cs)) => some (.c (.clo f cs), H)
    | _ => none
  | .binOp op t x y _ => match evO e x, evO e y with
    | some a, some b => (binV P H op t a b).map fun l => (.c l, H)
    | _, _ => none
  | .unOp op _ x => match op, evO e x with
    | .not, some (.c (.v (.bool b))) => some (.c (.v (.bool (!b))), H)
    | .neg, some (.c (.v (.int k n))) => some (.c (.v (.int k (k.wrap (-n)))), H)
    | _, _ => none
  | .convert src dst x => match ik P src, ik P dst, evO e x with
    | some _, some k, some (.c (.v (.int _ n))) => some (.c (.v (.int k (k.wrap n))), H)
    | _, _, _ => none
  | .makeFunc (.func f) first caps => if first.size = 0 then (leafL (caps.toList.map (evO e))).map fun cs => (.c (.clo f cs), H) else none
  | .slice t x lo hi none => match evO e x, optInt e lo, optInt e hi with
    | some (.c l), some lo, some hi => (sliceV P H t l lo hi).map fun l => (.c l, H)
    | _, _, _ => none
  | .fieldAddr s x f => match fo P s f, evO e x with
    | some (off, n, _), some (.c (.ptr h ver i k)) => if n = 0 then none else (obj H h ver).map fun _ => (.c (.ptr h ver i (k + off)), H)
    | some (off, n, _), some (.c (.fptr rows i k)) => if n = 0 then none else some (.c (.fptr rows i (k + off)), H)
    | _, _ => none
  | .field s x f => match fo P s f, evO e x with
    | some (off, n, g), some (.agg cs) => (mkSeg g cs off n).map (·, H)
    | _, _ => none
  | .indexAddr t x i => match evO e x, evO e i with
    | some (.c l), some (.c (.v (.int _ n))) => (indexAddrV P H t l n).map fun l => (.c l, H)
    | _, _ => none
  | .index t x i => match ar P t, evO e x, evO e i with
    | some (n, size, g), some (.agg cs), some (.c (.v (.int _ j))) => if 0 ≤ j ∧ j < n then (mkSeg g cs (j.toNat * size) size).map (·, H) else none
    | _, _, _ => none
  | .extract x i => match evO e x with
    | some (.tup vs) => vs[i]?.map (·, H)
    | _ => none
  | .call { callee := .builtin .len, args, argTypes } => match args.toList, argTypes.toList with
    | [x], [t] => match P.underlying t, evO e x with
      | some (.slice _), some (.c l) => (lenL l).map fun (n : Nat) => (.c (.v (.int .i64 (n : Int))), H)
      | _, _ => none
    | _, _ => none
  | .call { callee := .builtin .append, args, argTypes } => match args.toList, argTypes.toList with
    | [s, x], [t, t'] => match evO e s, evO e x with
      | some (.c s), some (.c x) => appendV P H t t' s x
      | _, _ => none
    | _, _ => none
  | .call { callee := .builtin .min, args, .. } => (foldInt min (args.toList.map (evO e))).map fun n => (.c (.v (.int .i64 n)), H)
  | .call { callee := .builtin .max, args, .. } => (foldInt max (args.toList.map (evO e))).map fun n => (.c (.v (.int .i64 n)), H)
  | _ => none

end Go.Nx
