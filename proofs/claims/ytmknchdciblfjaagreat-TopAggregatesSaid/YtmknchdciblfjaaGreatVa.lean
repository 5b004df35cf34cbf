/- A program that runs the walked language on closed inputs, and its proof. -/
import Derived.TacticsIn
import Derived.RangeFuncLeaves
import Derived.Laws.BytesString
set_option linter.unusedVariables false
set_option linter.unusedSimpArgs false
namespace Go.Proofs.YtmknchdciblfjaaGreat.Ev
open Go
/-! A program that runs the walked language on closed inputs: objects have numbers of its own, so that it need not know the world in which it runs. -/
inductive T (α : Type) where
  | nil
  | node (v : Option α) (l r : T α)
def T.get {α : Type} : T α → Nat → Option α
  | .nil, _ => none
  | .node v l r, n => bif n == 0 then v else bif n % 2 == 1 then l.get (n / 2) else r.get (n / 2 - 1)
def T.set {α : Type} : Nat → T α → Nat → Option α → T α
  | 0, _, _, _ => .nil
  | f + 1, .nil, n, x => bif n == 0 then .node x .nil .nil else bif n % 2 == 1 then .node none (T.set f .nil (n / 2) x) .nil else .node none .nil (T.set f .nil (n / 2 - 1) x)
  | f + 1, .node v l r, n, x => bif n == 0 then .node x l r else bif n % 2 == 1 then .node v (T.set f l (n / 2) x) r else .node v l (T.set f r (n / 2 - 1) x)
/-- the room of a slice: known, or not (then: the cells of an element) -/
inductive Cp where
  | known (c : Nat)
  | opened (sz : Nat)
inductive RV where
  | val (v : Value)
  | ptr (id off : Nat)
  | slice (id off len : Nat) (cap : Cp)
  | empty
  | map (id : Nat)
  | fn (f : FuncId) (first caps : List RV)
  | yield (id : Nat)
  | agg (cs : List RV)
  | tup (vs : List RV)
structure ALoop where
  state : LoopState
  pending : Option Code
  n : Nat
  tmps : T RV
  params : List Tmp
  assign : Code
  body : Code
  defers : Nat
structure AEnt where
  key : Value
  val : RV
  born : Nat
inductive AObj where
  | cells (cs : List RV)
  | map (es : List AEnt) (clock : Nat)
  | loop (l : ALoop)
  | defd
structure S where
  H : T AObj
  nx : Nat
/-- what stays while a frame runs: the number of its temporaries, the round it is of -/
structure St where
  n : Nat
  round : Option Nat
structure Dy where
  e : T RV
  mks : List Nat
  s : S
inductive AX where
  | normal
  | exit (id : Nat)
  | goto (l : Nat)
  | ret
def D : Nat := 40
def S.new (s : S) (o : AObj) : S := ⟨s.H.set D s.nx (some o), s.nx + 1⟩
def S.put (s : S) (id : Nat) (o : Option AObj) : S := ⟨s.H.set D id o, s.nx⟩
def S.cells? (s : S) (id : Nat) : Option (List RV) := match s.H.get id with | some (.cells cs) => some cs | _ => none
def putE (n : Nat) (e : T RV) (d : Option Tmp) (v : RV) : T RV := match d with | some t => bif Nat.blt t n then e.set D t (some v) else e | none => e
def opnd (e : T RV) : Operand → Option RV
  | .tmp t => e.get t
  | .const v => some (.val v)
  | .func f => some (.fn f [] [])
  | .global _ => none
def opnds (e : T RV) : List Operand → Option (List RV)
  | [] => some []
  | x :: r => match opnd e x with | some v => (match opnds e r with | some vs => some (v :: vs) | none => none) | none => none
mutual
def RV.ground : RV → Option Value
  | .val v => some v
  | .agg cs => match RV.grounds cs with | some vs => some (.agg vs.toArray) | none => none
  | _ => none
def RV.grounds : List RV → Option (List Value)
  | [] => some []
  | x :: r => match RV.ground x with | some v => (match RV.grounds r with | some vs => some (v :: vs) | none => none) | none => none
end
def RV.cells : RV → List RV
  | .val (.agg cs) => cs.toList.map .val
  | .agg cs => cs
  | v => [v]
/-- fits into one cell -/
def RV.one : RV → Bool
  | .val (.agg _) => false
  | .val (.tuple _) => false
  | .agg _ => false
  | .tup _ => false
  | _ => true
def ones : List RV → Bool
  | [] => true
  | x :: r => bif x.one then ones r else false
def calm {α : Type} (P : Program) : Sem α → Option α
  | .pure a => some a
  | .program k => calm P (k P)
  | _ => none
def sizeOf? (P : Program) (t : TypeId) : Option Nat := match P.info? t with | some i => some i.size | none => none
def bytesOf? (P : Program) (t : TypeId) : Option Nat := match P.info? t with | some i => some i.bytes | none => none
def aggD : TypeDesc → Bool
  | .struct _ => true
  | .array _ _ => true
  | _ => false
def isAgg? (P : Program) (t : TypeId) : Option Bool := match P.underlying t with | some d => some (aggD d) | none => none
def zero? (P : Program) (t : TypeId) : Option Value := match P.info? t with | some i => i.zero | none => none
def part? (P : Program) (t : TypeId) (cs : List RV) (off : Nat) : Option RV :=
  match isAgg? P t with
  | some true => (match sizeOf? P t with | some n => bif Nat.ble (off + n) cs.length then some (.agg ((cs.drop off).take n)) else none | none => none)
  | some false => cs[off]?
  | none => none
/-- the cells vs put at off -/
def setAt : List RV → Nat → List RV → List RV
  | cs, _, [] => cs
  | [], _, _ => []
  | _ :: r, 0, v :: vs => v :: setAt r 0 vs
  | c :: r, n + 1, vs => c :: setAt r n vs
def fillS (place : Nat → Option (Nat × Nat)) : List RV → List (Nat × RV) → Option (List RV)
  | cs, [] => some cs
  | cs, (i, v) :: rest => match place i with
    | some (off, size) => bif v.cells.length == size && Nat.ble (off + size) cs.length then fillS place (setAt cs off v.cells) rest else none
    | none => none
def asNat? : RV → Option Nat
  | .val (.int _ (.ofNat n)) => some n
  | _ => none
def rep (n : Nat) (cs : List RV) : List RV := (List.replicate n cs).flatten
def pairs (e : T RV) : List (Nat × Operand) → Option (List (Nat × RV))
  | [] => some []
  | (i, x) :: r => match opnd e x with | some v => (match pairs e r with | some vs => some ((i, v) :: vs) | none => none) | none => none
def bytesEv : List RV → Option (List UInt8)
  | [] => some []
  | .val (.int .u8 n) :: r => match bytesEv r with | some l => some (UInt8.ofNat n.toNat :: l) | none => none
  | _ => none
def fieldOf (P : Program) (t : TypeId) (i : Nat) : Option Field := match P.underlying t with | some (.struct fs) => fs[i]? | _ => none
def placesS (P : Program) : List Field → Option (List (Nat × Nat))
  | [] => some []
  | f :: l => match sizeOf? P f.type, placesS P l with
    | some n, some r => some ((f.offset, n) :: r)
    | _, _ => none
/-- nil, or surely not, by the kind of what can be compared with nil: 0 pointers, 1 slices, 2 functions -/
def nilEv : RV → Option (Nat × Bool)
  | .val (.pointer none) => some (0, true)
  | .ptr .. => some (0, false)
  | .val (.slice none _ _) => some (1, true)
  | .slice .. => some (1, false)
  | .empty => some (1, false)
  | .val .nilFunc => some (2, true)
  | .fn .. => some (2, false)
  | .yield _ => some (2, false)
  | _ => none
def kindN : TypeDesc → Option Nat
  | .pointer _ => some 0
  | .slice _ => some 1
  | .func _ _ _ => some 2
  | _ => none
def binEv (P : Program) (op : BinOp) (t : TypeId) (ox oy : Operand) (x y : RV) : Option RV :=
  match x.ground, y.ground with
  | some a, some b => (match calm P (do eqGuard op t ox oy a b; binOp op t a b) with | some v => some (.val v) | none => none)
  | _, _ => match nilEv x, nilEv y, P.underlying t with
    | some (k, a), some (l, b), some d => bif (a || b) && k == l && (kindN d == some k) then (match op with | .eql => some (.val (.bool (a && b))) | .neq => some (.val (.bool (!(a && b)))) | _ => none) else none
    | _, _, _ => none
def lenEv : RV → Option Nat
  | .val (.string s) => some s.size
  | .val (.slice none n _) => bif n == 0 then some 0 else none
  | .slice _ _ n _ => some n
  | .empty => some 0
  | _ => none
def byteVals (b : ByteArray) : List Value := b.data.toList.map fun c => .int .u8 c.toNat
/-- the cells of the first n elements -/
def firstEv (s : S) (size n : Nat) : RV → Option (List RV)
  | .slice id off _ _ => match s.cells? id with | some cs => bif Nat.ble (off + n * size) cs.length then some ((cs.drop off).take (n * size)) else none | none => none
  | .empty => bif n * size == 0 then some [] else none
  | .val (.slice none _ _) => some []
  | .val (.string b) => bif n == b.size && size == 1 then some ((byteVals b).map .val) else none
  | _ => none
def most : Nat := 65536
def notInt (P : Program) (t : TypeId) : Bool := match P.underlying t with | some (.int _) => false | some _ => true | none => false
def appendEv (P : Program) (s : S) (sT xT : TypeId) (x y : RV) : Option (RV × S) :=
  match P.underlying sT with
  | some (.slice e) => match sizeOf? P e, bytesOf? P e, zero? P e with
    | some size, some bytes, some z => match lenEv x, lenEv y, notInt P xT with
      | some n, some m, true => match firstEv s size n x, firstEv s size m y with
        | some old, some new =>
          bif Nat.ble 1 size && Nat.ble 1 bytes && Nat.ble ((n + m) * bytes) most && z.cells.size == size && ones new then
          match x with
          | .slice id off _ (.known c) =>
            bif Nat.ble (n + m) c then (match s.cells? id with | some cs => bif Nat.ble (off + (n + m) * size) cs.length then some (.slice id off (n + m) (.known c), s.put id (some (.cells (setAt cs (off + n * size) new)))) else none | none => none)
            else some (.slice s.nx 0 (n + m) (.opened size), s.new (.cells (old ++ new)))
          | .slice id off _ (.opened sz) => bif m == 0 then some (x, s) else bif sz == size then some (.slice s.nx 0 (n + m) (.opened size), (s.put id none).new (.cells (old ++ new))) else none
          | .val (.slice none _ 0) => bif m == 0 then some (x, s) else some (.slice s.nx 0 (n + m) (.opened size), s.new (.cells (old ++ new)))
          | .empty => bif m == 0 then some (x, s) else none
          | _ => none
          else none
        | _, _ => none
      | _, _, _ => none
    | _, _, _ => none
  | _ => none
def numEv (d : Nat) : Option RV → Option Nat
  | none => some d
  | some v => asNat? v
def le3 (l h m : Nat) : Bool := Nat.ble l h && Nat.ble h m
def roomOk : Cp → Nat → Nat → Bool
  | .known c, m, _ => Nat.ble m c
  | .opened _, m, len => Nat.ble m len
def sliceEv (P : Program) (t : TypeId) (x : RV) (lo hi mx : Option RV) : Option RV :=
  match P.underlying t with
  | some d => match d, x with
    | .string, .val (.string b) => match numEv 0 lo, numEv b.size hi, mx with
      | some l, some h, none => bif le3 l h b.size then some (.val (.string (b.extract l h))) else none
      | _, _, _ => none
    | .array n e, .ptr id off => match numEv 0 lo, numEv n hi, sizeOf? P e, mx with
      | some l, some h, some size, none => bif le3 l h n then some (.slice id (bif n == l then off else off + l * size) (h - l) (.known (n - l))) else none
      | _, _, _, _ => none
    | .slice e, .slice id off len cap => match numEv 0 lo, numEv len hi, sizeOf? P e with
      | some l, some h, some size => match mx, hi, cap with
        | some m, some _, c => (match asNat? m with
          | some m => bif le3 l h m && roomOk c m len then some (.slice id (bif m == l then off else off + l * size) (h - l) (.known (m - l))) else none
          | none => none)
        | none, _, .known c => bif le3 l h c then some (.slice id (bif c == l then off else off + l * size) (h - l) (.known (c - l))) else none
        | none, _, .opened sz => bif le3 l h len && sz == size then (bif l == 0 || Nat.blt l len then some (.slice id (off + l * size) (h - l) (.opened sz)) else some .empty) else none
        | _, _, _ => none
      | _, _, _ => none
    | .slice e, .empty => match sizeOf? P e, numEv 0 lo, numEv 0 hi, mx with
      | some _, some 0, some 0, none => some .empty
      | _, _, _, _ => none
    | .slice e, .val (.slice none 0 0) => match sizeOf? P e, numEv 0 lo, numEv 0 hi with
      | some _, some 0, some 0 => (match mx, hi with
        | none, _ => some x
        | some m, some _ => (match asNat? m with | some 0 => some x | _ => none)
        | _, _ => none)
      | _, _, _ => none
    | _, _ => none
  | none => none
def keyD : TypeDesc → Bool
  | .int _ => true
  | .string => true
  | .bool => true
  | _ => false
def keyEq (P : Program) (kt : TypeId) (d : TypeDesc) (a b : Value) : Option Bool := bif keyD d then Instr.sameNow d a b else calm P (Op.equal kt a b)
def findM (P : Program) (kt : TypeId) (d : TypeDesc) (k : Value) : List AEnt → Nat → Option (Option (Nat × AEnt))
  | [], _ => some none
  | e :: r, i => match keyEq P kt d k e.key with
    | some true => some (some (i, e))
    | some false => findM P kt d k r (i + 1)
    | none => none
/-- the entry of a key, the key's check made -/
def seekM (P : Program) (kt : TypeId) (d : TypeDesc) (empty : Bool) (k : Value) (es : List AEnt) : Option (Option (Nat × AEnt)) :=
  match calm P (Instr.checkKey empty 10000 kt k) with
  | some () => findM P kt d k es 0
  | none => none
def bornM (b : Nat) : List AEnt → Nat → Option Nat
  | [], _ => none
  | e :: r, i => bif e.born == b then some i else bornM b r (i + 1)
def modM (f : AEnt → AEnt) : List AEnt → Nat → List AEnt
  | [], _ => []
  | e :: r, 0 => f e :: r
  | e :: r, i + 1 => e :: modM f r i
/-- a map's type: the key's type, its kind, the zero element -/
def mapT (P : Program) (t : TypeId) : Option (TypeId × TypeDesc × Value) :=
  match P.underlying t with
  | some (.map k e) => match P.underlying k, zero? P e with
    | some d, some z => some (k, d, z)
    | _, _ => none
  | _ => none
def isSl : RV → Bool
  | .val (.slice _ _ _) => true
  | .slice .. => true
  | .empty => true
  | _ => false
def builtinEv (P : Program) (b : Builtin) (ts : Array TypeId) (ty : TypeId) (args : List RV) (s : S) : Option (RV × S) :=
  match b, args with
  | .append, [x, y] => (match ts[0]?, ts[1]? with | some t, some u => appendEv P s t u x y | _, _ => none)
  | .len, [x] => (match ts[0]? with
    | some t => (match P.underlying t, x with
      | some .string, .val (.string b) => some (.val (goInt b.size), s)
      | some (.array n _), _ => some (.val (goInt n), s)
      | some (.slice _), x => (match x with | .val (.slice _ n _) => some (.val (goInt n), s) | .slice _ _ n _ => some (.val (goInt n), s) | .empty => some (.val (goInt (0 : Nat)), s) | _ => none)
      | some (.map _ _), .map id => (match s.H.get id with | some (.map es _) => some (.val (goInt es.length), s) | _ => none)
      | _, _ => none)
    | none => none)
  | .cap, [x] => (match ts[0]? with
    | some t => (match P.underlying t, x with
      | some (.slice _), .slice _ _ _ (.known c) => some (.val (goInt c), s)
      | some (.slice _), .val (.slice _ _ c) => some (.val (goInt c), s)
      | _, _ => none)
    | none => none)
  | .copy, [x, y] => (match ts[0]? with
    | some t => (match P.underlying t with
      | some (.slice e) => (match sizeOf? P e, lenEv x, lenEv y with
        | some size, some n, some m =>
          bif isSl x then
          (match firstEv s size (Nat.min m n) y, x with
          | some [], _ => some (.val (goInt (Nat.min m n)), s)
          | some (c :: new), .slice id off _ _ => (match s.cells? id with | some cs => bif Nat.ble (off + (c :: new).length) cs.length && ones (c :: new) then some (.val (goInt (Nat.min m n)), s.put id (some (.cells (setAt cs off (c :: new))))) else none | none => none)
          | _, _ => none)
          else none
        | _, _, _ => none)
      | _ => none)
    | none => none)
  | .clear, [x] => (match ts[0]? with
    | some t => (match P.underlying t with
      | some (.slice e) => (match x with
        | .empty => some (.val (.tuple #[]), s)
        | .val (.slice none _ _) => some (.val (.tuple #[]), s)
        | .slice id off n _ => (match sizeOf? P e, zero? P e, s.cells? id with
          | some size, some z, some cs => bif z.cells.size == size && Nat.ble (off + n * size) cs.length && ones (RV.val z).cells then some (.val (.tuple #[]), s.put id (some (.cells (setAt cs off (rep n (RV.val z).cells))))) else none
          | _, _, _ => none)
        | _ => none)
      | _ => none)
    | none => none)
  | .max, _ => (match RV.grounds args with | some vs => (match calm P (Builtin.max_ ts ty vs.toArray) with | some v => some (.val v, s) | none => none) | none => none)
  | .min, _ => (match RV.grounds args with | some vs => (match calm P (Builtin.min_ ts ty vs.toArray) with | some v => some (.val v, s) | none => none) | none => none)
  | _, _ => none
def optOp (e : T RV) : Option Operand → Option (Option RV)
  | none => some none
  | some x => match opnd e x with | some v => some (some v) | none => none
def convEv (P : Program) (s : S) (src dst : TypeId) (x : RV) : Option (RV × S) :=
  match P.underlying src, P.underlying dst with
  | some a, some d => match a, d, x with
    | _, .slice el, .val (.string b) => (match P.underlying el with
      | some (.int .u8) => bif Nat.ble b.size most then some (.slice s.nx 0 b.size (.opened 1), s.new (.cells ((byteVals b).map .val))) else none
      | _ => none)
    | .slice el, .string, x => (match P.underlying el, x with
      | some (.int .u8), .val (.slice none _ _) => some (.val (.string .empty), s)
      | some (.int .u8), .slice id off n cp => (match firstEv s 1 n (.slice id off n cp) with | some cs => (match bytesEv cs with | some l => some (.val (.string ⟨l.toArray⟩), s) | none => none) | none => none)
      | some (.int .u8), .empty => some (.val (.string .empty), s)
      | _, _ => none)
    | _, _, .val v => (match calm P (convert src dst v) with | some v => some (.val v, s) | none => none)
    | _, _, _ => none
  | _, _ => none
/-- an operation that makes no call; e: the values of its operands -/
def opEv (P : Program) (e : T RV) (s : S) (o : Oper) : Option (RV × S) :=
  match o.op with
  | .move x | .assign x => (match opnd e x with | some v => some (v, s) | none => none)
  | .pick c a b => (match opnd e c with | some (.val (.bool t)) => (match opnd e (bif t then a else b) with | some v => some (v, s) | none => none) | _ => none)
  | .alloc t => (match zero? P t with | some z => bif ones ((RV.val z).cells) then some (.ptr s.nx 0, s.new (.cells (RV.val z).cells)) else none | none => none)
  | .box t x => (match opnd e x with | some v => bif ones v.cells then some (.ptr s.nx 0, s.new (.cells v.cells)) else none | none => none)
  | .build t ps => (match zero? P t, pairs e ps.toList, P.underlying t with
    | some z, some l, some d => (match d with
      | .struct fs => (match placesS P fs.toList with
        | some pl => (match fillS (fun i => pl[i]?) (RV.val z).cells l with | some cs => some (.agg cs, s) | none => none)
        | none => none)
      | .array _ el => (match sizeOf? P el with
        | some n => (match fillS (fun i => some (i * n, n)) (RV.val z).cells l with | some cs => some (.agg cs, s) | none => none)
        | none => none)
      | _ => none)
    | _, _, _ => none)
  | .buildSlice t len ps => (match P.underlying t with
    | some (.slice el) => (match sizeOf? P el, zero? P el, pairs e ps.toList with
      | some size, some z, some l => bif z.cells.size == size && Nat.ble (len * size) most then (match fillS (fun i => some (i * size, size)) (rep len (RV.val z).cells) l with | some cs => bif ones cs then some (.slice s.nx 0 len (.known len), s.new (.cells cs)) else none | none => none) else none
      | _, _, _ => none)
    | _ => none)
  | .load t a => (match opnd e a with
    | some (.ptr id off) => (match s.cells? id with | some cs => (match part? P t cs off with | some v => some (v, s) | none => none) | none => none)
    | _ => none)
  | .store t a x => (match opnd e a, opnd e x, sizeOf? P t with
    | some (.ptr id off), some v, some n => (match s.cells? id with | some cs => bif v.cells.length == n && Nat.ble (off + n) cs.length && ones v.cells then some (.val undef, s.put id (some (.cells (setAt cs off v.cells)))) else none | none => none)
    | _, _, _ => none)
  | .nilCheck x => (match opnd e x with
    | some (.ptr id off) => some (.ptr id off, s)
    | some (.fn f a b) => some (.fn f a b, s)
    | some (.yield l) => some (.yield l, s)
    | _ => none)
  | .binOp op t x y _ => (match opnd e x, opnd e y with | some a, some b => (match binEv P op t x y a b with | some v => some (v, s) | none => none) | _, _ => none)
  | .unOp op _ x => (match opnd e x with | some (.val v) => (match calm P (Op.unary op v) with | some v => some (.val v, s) | none => none) | _ => none)
  | .convert src dst x => (match opnd e x with | some v => convEv P s src dst v | none => none)
  | .makeFunc (.func f) first caps => (match opnds e first.toList, opnds e caps.toList with | some a, some b => some (.fn f a b, s) | _, _ => none)
  | .makeMap t none => some (.map s.nx, s.new (.map [] 0))
  | .makeSlice t l c => (match P.underlying t, opnd e l, opnd e c with
    | some (.slice el), some lv, some cv => (match asNat? lv, asNat? cv, sizeOf? P el, zero? P el, bytesOf? P el with
      | some l, some c, some size, some z, some bytes => bif Nat.ble l c && Nat.ble (c * bytes) most && Nat.ble c most && z.cells.size == size && ones (RV.val z).cells then some (.slice s.nx 0 l (.known c), s.new (.cells (rep c (RV.val z).cells))) else none
      | _, _, _, _, _ => none)
    | _, _, _ => none)
  | .slice t x lo hi mx => (match opnd e x, optOp e lo, optOp e hi, optOp e mx with
    | some v, some l, some h, some m => (match sliceEv P t v l h m with | some v => some (v, s) | none => none)
    | _, _, _, _ => none)
  | .fieldAddr t x f => (match opnd e x, fieldOf P t f with
    | some (.ptr id off), some f => (match sizeOf? P f.type with | some (_ + 1) => some (.ptr id (off + f.offset), s) | _ => none)
    | _, _ => none)
  | .field t x f => (match opnd e x, fieldOf P t f with
    | some (.agg cs), some f => (match part? P f.type cs f.offset with | some v => some (v, s) | none => none)
    | some (.val (.agg cs)), some f => (match part? P f.type (cs.toList.map .val) f.offset with | some v => some (v, s) | none => none)
    | _, _ => none)
  | .indexAddr t x i => (match P.underlying t, opnd e x, opnd e i with
    | some d, some x, some iv => (match d, x, asNat? iv with
      | .array n el, .ptr id off, some i => (match sizeOf? P el with | some size => bif Nat.blt i n then some (.ptr id (off + i * size), s) else none | none => none)
      | .slice el, .slice id off len _, some i => (match sizeOf? P el with | some size => bif Nat.blt i len then some (.ptr id (off + i * size), s) else none | none => none)
      | _, _, _ => none)
    | _, _, _ => none)
  | .index t x i => (match P.underlying t, opnd e x, opnd e i with
    | some d, some x, some iv => (match d, x, asNat? iv with
      | .array n el, .agg cs, some i => (match sizeOf? P el with | some size => bif Nat.blt i n then (match part? P el cs (i * size) with | some v => some (v, s) | none => none) else none | none => none)
      | .array n el, .val (.agg cs), some i => (match sizeOf? P el with | some size => bif Nat.blt i n then (match part? P el (cs.toList.map .val) (i * size) with | some v => some (v, s) | none => none) else none | none => none)
      | .string, .val (.string b), some i => (match b.data.toList[i]? with | some c => some (.val (.int .u8 c.toNat), s) | none => none)
      | _, _, _ => none)
    | _, _, _ => none)
  | .lookup t x i ok => (match opnd e x, opnd e i, mapT P t with
    | some (.map id), some k, some (kt, d, z) => (match k.ground, s.H.get id with
      | some k, some (.map es _) => (match seekM P kt d es.isEmpty k es with
        | some (some (_, a)) => some (bif ok then .tup [a.val, .val (.bool true)] else a.val, s)
        | some none => some (bif ok then .tup [.val z, .val (.bool false)] else .val z, s)
        | none => none)
      | _, _ => none)
    | _, _, _ => none)
  | .mapUpdate t m k x | .insert t m k x => (match opnd e m, opnd e k, opnd e x, mapT P t with
    | some (.map id), some k, some v, some (kt, d, _) => (match k.ground, s.H.get id with
      | some k, some (.map es c) => (match seekM P kt d false k es with
        | some (some (i, a)) => (match calm P (Instr.keyThatStays a.key k) with | some k => some (.val undef, s.put id (some (.map (modM (fun a => ⟨k, v, a.born⟩) es i) c))) | none => none)
        | some none => some (.val undef, s.put id (some (.map (es ++ [⟨k, v, c⟩]) (c + 1))))
        | none => none)
      | _, _ => none)
    | _, _, _, _ => none)
  | .mapEntry t m k => (match opnd e m, opnd e k, mapT P t with
    | some (.map id), some k, some (kt, d, z) => (match k.ground, s.H.get id with
      | some k, some (.map es c) => (match seekM P kt d false k es with
        | some (some (i, a)) => (match calm P (Instr.keyThatStays a.key k) with | some k => some (.tup [a.val, .val (goInt a.born)], s.put id (some (.map (modM (fun a => ⟨k, a.val, a.born⟩) es i) c))) | none => none)
        | some none => some (.tup [.val z, .val (goInt c)], s.put id (some (.map (es ++ [⟨k, .val z, c⟩]) (c + 1))))
        | none => none)
      | _, _ => none)
    | _, _, _ => none)
  | .entryStore t m st x => (match opnd e m, opnd e st, opnd e x with
    | some (.map id), some sv, some v => (match asNat? sv, s.H.get id with
      | some b, some (.map es c) => (match bornM b es 0 with | some i => some (.val undef, s.put id (some (.map (modM (fun a => ⟨a.key, v, a.born⟩) es i) c))) | none => none)
      | _, _ => none)
    | _, _, _ => none)
  | .extract x i => (match opnd e x with
    | some (.tup vs) => (match vs[i]? with | some v => some (v, s) | none => none)
    | some (.val (.tuple vs)) => (match vs[i]? with | some v => some (.val v, s) | none => none)
    | _ => none)
  | .call { callee := .builtin b, args, argTypes } => (match opnds e args.toList with | some l => builtinEv P b argTypes o.type l s | none => none)
  | _ => none
structure Rec where
  code : St → Code → Dy → Option (AX × Dy)
  call : FuncId → List RV → S → Option (RV × S)
  yield : Nat → List RV → S → Option (RV × S)
def setTmps (n : Nat) : T RV → List Tmp → List RV → T RV
  | e, t :: ts, v :: vs => setTmps n (putE n e (some t) v) ts vs
  | e, _, _ => e
def fromArgs : Nat → T RV → List RV → T RV
  | _, e, [] => e
  | i, e, v :: vs => fromArgs (i + 1) (e.set D i (some v)) vs
def callV (r : Rec) (f : RV) (args : List RV) (s : S) : Option (RV × S) :=
  match f with
  | .fn f first caps => r.call f (first ++ args ++ caps) s
  | .yield l => r.yield l args s
  | _ => none
def stepEv (P : Program) (r : Rec) (e : T RV) (s : S) (o : Oper) : Option (RV × S) :=
  match o.op with
  | .call { callee := .value f, args, .. } => (match opnd e f, opnds e args.toList with | some g, some l => callV r g l s | _, _ => none)
  | _ => opEv P e s o
def dstOf (ops : Array Oper) (j : Nat) : Option Tmp := match ops[j]? with | some o => o.dst | none => none
def wantedEv (ops : Array Oper) (e : T RV) (o : Oper) : Option Bool :=
  match o.guard with
  | none => some true
  | some (j, want) => match dstOf ops j with
    | some t => (match e.get t with | some (.val (.bool b)) => some (b == want) | some (.val (.tuple _)) => some false | _ => none)
    | none => none
def opsEv (P : Program) (r : Rec) (n : Nat) (ops : Array Oper) : List Oper → T RV → S → Option (T RV × S)
  | [], e, s => some (e, s)
  | o :: l, e, s => match wantedEv ops e o with
    | some true => (match stepEv P r e s o with | some (v, s') => opsEv P r n ops l (putE n e o.dst v) s' | none => none)
    | some false => opsEv P r n ops l (putE n e o.dst (.val undef)) s
    | none => none
/-! A region that draws its order. -/
def valSame : Value → Value → Bool
  | .int a x, .int b y => a == b && x == y
  | .bool a, .bool b => a == b
  | .string a, .string b => a.data.toList == b.data.toList
  | .pointer none, .pointer none => true
  | .slice none a b, .slice none c d => a == c && b == d
  | .map none, .map none => true
  | .nilFunc, .nilFunc => true
  | .nilIface, .nilIface => true
  | _, _ => false
def cpSame : Cp → Cp → Bool
  | .known a, .known b => a == b
  | .opened a, .opened b => a == b
  | _, _ => false
mutual
def same : RV → RV → Bool
  | .val a, .val b => valSame a b
  | .ptr a b, .ptr c d => a == c && b == d
  | .slice a b c d, .slice e f g h => a == e && b == f && c == g && cpSame d h
  | .empty, .empty => true
  | .map a, .map b => a == b
  | .fn a b c, .fn d e f => a == d && sames b e && sames c f
  | .yield a, .yield b => a == b
  | .agg a, .agg b => sames a b
  | .tup a, .tup b => sames a b
  | _, _ => false
def sames : List RV → List RV → Bool
  | [], [] => true
  | a :: r, b :: q => bif same a b then sames r q else false
  | _, _ => false
end
def maskE (A : List Nat) : List Edge → Nat → Nat
  | [], s => s
  | e :: l, s => maskE A l (bif Region.binds .any e then s ||| 2 ^ e.on ||| A.getD e.on 0 else s)
/-- the ancestors of each operation, as bits -/
def masks : List Oper → List Nat → List Nat
  | [], A => A
  | o :: l, A => masks l (A ++ [maskE A o.after.toList 0])
def tmpOf : Operand → Option Tmp
  | .tmp t => some t
  | _ => none
/-- the temporaries that an operation looks at -/
def namesOf (ops : Array Oper) (o : Oper) : List Tmp :=
  o.op.operands.toList.filterMap tmpOf ++ (match o.guard with | some (j, _) => (dstOf ops j).toList | none => [])
/-- whoever writes what an operation looks at, or writes, is ordered with it -/
def tmpsOkAt (ops : Array Oper) (A : List Nat) (i : Nat) (ns : List Tmp) : List Oper → Nat → Bool
  | [], _ => true
  | o :: l, j => bif (match o.dst with | some t => i == j || !ns.contains t || (A.getD (max i j) 0).testBit (min i j) | none => true) then tmpsOkAt ops A i ns l (j + 1) else false
def tmpsOk (ops : Array Oper) (A : List Nat) : List Oper → Nat → Bool
  | [], _ => true
  | o :: l, i => bif tmpsOkAt ops A i (o.dst.toList ++ namesOf ops o) ops.toList 0 then tmpsOk ops A l (i + 1) else false
/-- whoever comes ahead stands ahead -/
def backOk : List Oper → Nat → Bool
  | [], _ => true
  | o :: l, i => bif o.after.toList.all (fun e => bif Region.binds .any e then Nat.blt e.on i else true) then backOk l (i + 1) else false
def drawOk (ops : Array Oper) (A : List Nat) : Bool := tmpsOk ops A ops.toList 0 && backOk ops.toList 0
/-- looks at the heap, and leaves it -/
def readOp : Op → Bool
  | .load .. => true
  | .lookup .. => true
  | .convert .. => true
  | .call { callee := .builtin .len, .. } => true
  | _ => false
def smallE (e : T RV) : List Tmp → T RV
  | [] => .nil
  | t :: l => match e.get t with | some v => (smallE e l).set D t (some v) | none => smallE e l
def effOp : Op → Bool
  | .call { callee := .builtin .len, .. } => false
  | .call { callee := .builtin .cap, .. } => false
  | .call { callee := .builtin .min, .. } => false
  | .call { callee := .builtin .max, .. } => false
  | .call _ => true
  | .store .. => true
  | .mapUpdate .. => true
  | .insert .. => true
  | .mapEntry .. => true
  | .entryStore .. => true
  | _ => false
inductive DK where
  | skip
  | pure
  | alloc (o : AObj)
  | read
  | eff
structure DR where
  i : Nat
  se : T RV
  v : RV
  k : DK
/-- the objects of the allocations in mask put to a heap -/
def addAl (nx0 mask : Nat) : List DR → S → S
  | [], s => s
  | d :: l, s => match d.k with
    | .alloc o => addAl nx0 mask l (bif mask.testBit d.i then s.put (nx0 + d.i) (some o) else s)
    | _ => addAl nx0 mask l s
/-- the way through: the values so far (the last first), the heaps behind each effect (the last first; with the ancestors included), the effects (the last first) -/
structure DS where
  e : T RV
  rs : List DR
  hs : List (S × Nat)
  fs : List Nat
def bits (m k : Nat) : Nat := m &&& ((2 ^ 200 - 1) ^^^ k)
def draw1 (P : Program) (r : Rec) (n nx0 : Nat) (ops : Array Oper) (m : Nat) (o : Oper) (i : Nat) (d : DS) : Option DS :=
  match wantedEv ops d.e o with
  | none => none
  | some false => some ⟨putE n d.e o.dst (.val undef), ⟨i, .nil, .val undef, .skip⟩ :: d.rs, d.hs, d.fs⟩
  | some true =>
    match smallE d.e (namesOf ops o), d.hs with
    | se, (b, inc) :: hs =>
      bif effOp o.op then
        bif (match d.fs with | [] => true | f :: _ => m.testBit f) then
          (match stepEv P r se (addAl nx0 (bits m inc) d.rs b) o with
          | some (v, s1) => some ⟨putE n d.e o.dst v, ⟨i, se, v, .eff⟩ :: d.rs, (s1, inc ||| m) :: d.hs, i :: d.fs⟩
          | none => none)
        else none
      else (match opEv P se ⟨.nil, nx0 + i⟩ o with
        | some (v, s1) => bif s1.nx == nx0 + i then some ⟨putE n d.e o.dst v, ⟨i, se, v, .pure⟩ :: d.rs, d.hs, d.fs⟩
          else (match s1.H.get (nx0 + i) with | some ob => some ⟨putE n d.e o.dst v, ⟨i, se, v, .alloc ob⟩ :: d.rs, d.hs, d.fs⟩ | none => none)
        | none => bif readOp o.op then (match opEv P se (addAl nx0 (bits m inc) d.rs b) o with
          | some (v, _) => some ⟨putE n d.e o.dst v, ⟨i, se, v, .read⟩ :: d.rs, d.hs, d.fs⟩
          | none => none) else none)
    | _, [] => none
def drawP (P : Program) (r : Rec) (n nx0 : Nat) (ops : Array Oper) (A : List Nat) : List Oper → Nat → DS → Option DS
  | [], _, d => some d
  | o :: l, i, d => match draw1 P r n nx0 ops (A.getD i 0) o i d with
    | some d => drawP P r n nx0 ops A l (i + 1) d
    | none => none
/-- may an operation (its ancestors m) come when the effects done are done, those to come left? (each with its ancestors) -/
def stageOk (A : List Nat) (i m : Nat) (done left : List Nat) : Bool :=
  done.all (fun f => !(A.getD f 0).testBit i) && left.all (fun f => !m.testBit f)
/-- a read gives the same at each stage; hs, fs: the last first; left: the effects behind -/
def readOk (P : Program) (nx0 : Nat) (A : List Nat) (rs : List DR) (o : Oper) (d : DR) (m : Nat) : List (S × Nat) → List Nat → List Nat → Bool
  | [], _, _ => true
  | (b, inc) :: hs, fs, left =>
    bif (bif stageOk A d.i m fs left then (match opEv P d.se (addAl nx0 (bits m inc) rs b) o with | some (v, s1) => same v d.v && s1.nx == b.nx | none => false) else true) then
      (match fs with | [] => true | f :: fs => readOk P nx0 A rs o d m hs fs (f :: left))
    else false
def readsOk (P : Program) (nx0 : Nat) (ops : Array Oper) (A : List Nat) (rs : List DR) (hs : List (S × Nat)) (fs : List Nat) : List DR → Bool
  | [] => true
  | d :: l => bif (match d.k, ops[d.i]? with | .read, some o => readOk P nx0 A rs o d (A.getD d.i 0) hs fs [] | .read, none => false | _, _ => true) then readsOk P nx0 ops A rs hs fs l else false
def drawEv (P : Program) (r : Rec) (n : Nat) (ops : Array Oper) (e : T RV) (s : S) : Option (T RV × S) :=
  match masks ops.toList [] with
  | A => bif drawOk ops A && Nat.ble ops.size 200 then
    (match drawP P r n s.nx ops A ops.toList 0 ⟨e, [], [(⟨s.H, s.nx + ops.size⟩, 0)], []⟩ with
    | some d => bif readsOk P s.nx ops A d.rs d.hs d.fs d.rs then
        (match d.hs with | (b, inc) :: _ => some (d.e, addAl s.nx (bits (2 ^ 200 - 1) inc) d.rs b) | [] => none)
        else none
    | none => none)
    else none
def resultEv (P : Program) (e : T RV) (s : S) : ResultVar → Option RV
  | .tmp t => e.get t
  | .cell a t => match e.get a with
    | some (.ptr id off) => (match s.cells? id with | some cs => part? P t cs off | none => none)
    | _ => none
def resultsEv (P : Program) (e : T RV) (s : S) : List ResultVar → Option (List RV)
  | [] => some []
  | x :: l => match resultEv P e s x, resultsEv P e s l with | some v, some vs => some (v :: vs) | _, _ => none
def retEv : List RV → RV
  | [v] => v
  | vs => .tup vs
def killMarks : List Nat → S → Option S
  | [], s => some s
  | m :: r, s => match s.H.get m with | some .defd => killMarks r (s.put m none) | _ => none
def codeF (P : Program) (r : Rec) (st : St) : Code → Dy → Option (AX × Dy)
  | .skip, d => some (.normal, d)
  | .label _, d => some (.normal, d)
  | .region _ ops draw, d => (match (bif draw then drawEv P r st.n ops d.e d.s else opsEv P r st.n ops ops.toList d.e d.s) with | some (e, s) => some (.normal, ⟨e, d.mks, s⟩) | none => none)
  | .seq a b, d => (match codeF P r st a d with | some (.normal, d) => codeF P r st b d | x => x)
  | .cond c x y, d => (match opnd d.e c with | some (.val (.bool t)) => (bif t then codeF P r st x d else codeF P r st y d) | _ => none)
  | .block id b, d => (match codeF P r st b d with | some (.exit j, d) => some (bif j == id then .normal else .exit j, d) | x => x)
  | .loop b, d => (match codeF P r st b d with | some (.normal, d) => r.code st (.loop b) d | x => x)
  | .scope b, d => none
  | .exit id, d => some (.exit id, d)
  | .goto l, d => some (.goto l, d)
  | .ret, d => some (.ret, d)
  | .refuse _, _ => none
  | .rangeFunc f params assign body, d =>
    match opnd d.e f with
    | some (.fn g first caps) =>
      (match (match st.round with
        | some l => (match d.s.H.get l with | some (.loop L) => some (L.defers, d.mks, d.s) | _ => none)
        | none => some (d.s.nx, d.s.nx :: d.mks, d.s.new .defd)) with
      | some (dm, mk, s) =>
        (match r.call g (first ++ [.yield s.nx] ++ caps) (s.new (.loop { state := .ready, pending := none, n := st.n, tmps := d.e, params := params.toList, assign, body, defers := dm })) with
        | some (_, s2) => (match s2.H.get s.nx with
          | some (.loop L) => (match L.state with
            | .busy => none
            | _ => (match L.pending with
              | none => some (.normal, ⟨d.e, mk, s2.put s.nx none⟩)
              | some c => r.code st c ⟨d.e, mk, s2.put s.nx none⟩))
          | _ => none)
        | none => none)
      | none => none)
    | _ => none
def callF (P : Program) (r : Rec) (f : FuncId) (args : List RV) (s : S) : Option (RV × S) :=
  match P.funcs[f]? with
  | some fn => (match fn.body with
    | some c => bif Nat.ble args.length fn.ntmps then (match r.code ⟨fn.ntmps, none⟩ c ⟨fromArgs 0 .nil args, [], s⟩ with
      | some (x, d) => (match x with
        | .normal | .ret => (match killMarks d.mks d.s with
          | some s => (match resultsEv P d.e s fn.results.toList with
            | some vs => some (retEv vs, s)
            | none => none)
          | none => none)
        | _ => none)
      | none => none) else none
    | none => none)
  | none => none
def jumpOf : AX → Option Code
  | .normal => none
  | .ret => some .ret
  | .exit id => some (.exit id)
  | .goto t => some (.goto t)
def yieldF (P : Program) (r : Rec) (l : Nat) (args : List RV) (s : S) : Option (RV × S) :=
  match s.H.get l with
  | some (.loop L) => (match L.state with
    | .ready => bif args.length == L.params.length then
      (match r.code ⟨L.n, some l⟩ L.assign ⟨setTmps L.n L.tmps L.params args, [], s⟩ with
      | some (.normal, d) => (match d.s.H.get l with
        | some (.loop L1) => (match L1.state with
          | .ready => (match r.code ⟨L.n, some l⟩ L.body ⟨d.e, d.mks, d.s.put l (some (.loop { L1 with state := .busy }))⟩ with
            | some (x, d) => (match d.s.H.get l with
              | some (.loop L2) => some (.val (.bool (jumpOf x).isNone), d.s.put l (some (.loop { L2 with state := bif (jumpOf x).isNone then .ready else .done, pending := jumpOf x })))
              | _ => none)
            | none => none)
          | _ => none)
        | _ => none)
      | _ => none)
      else none
    | _ => none)
  | _ => none
def Rec.none : Rec := ⟨fun _ _ _ => Option.none, fun _ _ _ => Option.none, fun _ _ _ => Option.none⟩
def recF (P : Program) (r : Rec) : Rec := ⟨codeF P r, callF P r, yieldF P r⟩
def ev (P : Program) (n : Nat) : Rec := Nat.rec Rec.none (fun _ r => recF P r) n
theorem T.get_nil {α : Type} (n : Nat) : (T.nil : T α).get n = none := rfl
theorem T.get_set {α : Type} : ∀ (f : Nat) (t : T α) (n : Nat) (x : Option α) (m : Nat) (v : α), (T.set f t n x).get m = some v → (m = n ∧ x = some v) ∨ (m ≠ n ∧ t.get m = some v)
  | 0, t, n, x, m, v, h => by simp [T.set, T.get] at h
  | f + 1, .nil, n, x, m, v, h => by
    simp only [T.set] at h
    by_cases h0 : n = 0
    · subst h0
      simp only [beq_self_eq_true, cond_true, T.get] at h
      by_cases hm : m = 0
      · subst hm; simp at h; exact .inl ⟨rfl, h⟩
      · rw [show (m == 0) = false by simpa using hm] at h; simp only [cond_false] at h
        cases h1 : (m % 2 == 1) <;> simp [h1] at h
    · rw [show (n == 0) = false by simpa using h0] at h
      simp only [cond_false] at h
      by_cases h1 : n % 2 = 1
      · rw [show (n % 2 == 1) = true by simpa using h1] at h
        simp only [cond_true, T.get] at h
        by_cases hm : m = 0
        · subst hm; simp at h
        · rw [show (m == 0) = false by simpa using hm] at h; simp only [cond_false] at h
          cases h2 : (m % 2 == 1) <;> simp only [h2, cond_true, cond_false] at h
          · cases h
          · rcases T.get_set f .nil _ x _ v h with ⟨a, b⟩ | ⟨a, b⟩
            · exact .inl ⟨by simp at h2; omega, b⟩
            · cases b
      · rw [show (n % 2 == 1) = false by simpa using h1] at h
        simp only [cond_false, T.get] at h
        by_cases hm : m = 0
        · subst hm; simp at h
        · rw [show (m == 0) = false by simpa using hm] at h; simp only [cond_false] at h
          cases h2 : (m % 2 == 1) <;> simp only [h2, cond_true, cond_false] at h
          · rcases T.get_set f .nil _ x _ v h with ⟨a, b⟩ | ⟨a, b⟩
            · exact .inl ⟨by simp at h2; omega, b⟩
            · cases b
          · cases h
  | f + 1, .node w l r, n, x, m, v, h => by
    simp only [T.set] at h
    by_cases h0 : n = 0
    · subst h0
      simp only [beq_self_eq_true, cond_true, T.get] at h
      by_cases hm : m = 0
      · subst hm; simp at h; exact .inl ⟨rfl, h⟩
      · refine .inr ⟨hm, ?_⟩
        rw [show (m == 0) = false by simpa using hm] at h; simp only [cond_false] at h
        simp only [T.get, show (m == 0) = false by simpa using hm, cond_false]; exact h
    · rw [show (n == 0) = false by simpa using h0] at h
      simp only [cond_false] at h
      by_cases h1 : n % 2 = 1
      · rw [show (n % 2 == 1) = true by simpa using h1] at h
        simp only [cond_true, T.get] at h ⊢
        by_cases hm : m = 0
        · subst hm; simp at h; exact .inr ⟨by omega, by simpa using h⟩
        · rw [show (m == 0) = false by simpa using hm] at h ⊢; simp only [cond_false] at h ⊢
          cases h2 : (m % 2 == 1) <;> simp only [h2, cond_true, cond_false] at h ⊢
          · exact .inr ⟨by simp at h2; omega, h⟩
          · rcases T.get_set f l _ x _ v h with ⟨a, b⟩ | ⟨a, b⟩
            · exact .inl ⟨by simp at h2; omega, b⟩
            · exact .inr ⟨by intro e; subst e; exact a rfl, b⟩
      · rw [show (n % 2 == 1) = false by simpa using h1] at h
        simp only [cond_false, T.get] at h ⊢
        by_cases hm : m = 0
        · subst hm; simp at h; exact .inr ⟨by omega, by simpa using h⟩
        · rw [show (m == 0) = false by simpa using hm] at h ⊢; simp only [cond_false] at h ⊢
          cases h2 : (m % 2 == 1) <;> simp only [h2, cond_true, cond_false] at h ⊢
          · rcases T.get_set f r _ x _ v h with ⟨a, b⟩ | ⟨a, b⟩
            · exact .inl ⟨by simp at h2; omega, b⟩
            · exact .inr ⟨by intro e; subst e; exact a rfl, b⟩
          · exact .inr ⟨by simp at h2; omega, h⟩
/-- where an object of the evaluator lies: the block, the first cell, the number of the block's cells -/
structure Pl where
  b : Nat
  o : Nat
  n : Nat
abbrev Mp := Nat → Option Pl
def Mp.le (m m' : Mp) : Prop := ∀ id p, m id = some p → m' id = some p
theorem Mp.le.refl (m : Mp) : m.le m := fun _ _ h => h
theorem Mp.le.trans {a b c : Mp} (h : a.le b) (k : b.le c) : a.le c := fun id p hp => k id p (h id p hp)
mutual
inductive RVal (m : Mp) : RV → Value → Prop
  | val (v : Value) : RVal m (.val v) v
  | ptr {id off : Nat} {p : Pl} (h : m id = some p) : RVal m (.ptr id off) (.pointer (some ⟨p.b, p.o + off, none⟩))
  | known {id off len c : Nat} {p : Pl} (h : m id = some p) (hl : len ≤ c) : RVal m (.slice id off len (.known c)) (.slice (some ⟨p.b, p.o + off, none⟩) len c)
  | opened {id off len c sz : Nat} {p : Pl} (h : m id = some p) (hl : len ≤ c) (hr : p.o + off + c * sz ≤ p.n) : RVal m (.slice id off len (.opened sz)) (.slice (some ⟨p.b, p.o + off, none⟩) len c)
  | empty (a : Addr) (c : Nat) : RVal m .empty (.slice (some a) 0 c)
  | map {id : Nat} {p : Pl} (h : m id = some p) : RVal m (.map id) (.map (some p.b))
  | fn {f : FuncId} {xs cs : List RV} {vs us : List Value} (h : RVals m xs vs) (k : RVals m cs us) : RVal m (.fn f xs cs) (.func (.func f) vs.toArray us.toArray)
  | yield {id : Nat} {p : Pl} (h : m id = some p) : RVal m (.yield id) (.func (.yield p.b) #[] #[])
  | agg {cs : List RV} {vs : List Value} (h : RVals m cs vs) : RVal m (.agg cs) (.agg vs.toArray)
  | tup {cs : List RV} {vs : List Value} (h : RVals m cs vs) : RVal m (.tup cs) (.tuple vs.toArray)
inductive RVals (m : Mp) : List RV → List Value → Prop
  | nil : RVals m [] []
  | cons {x : RV} {v : Value} {xs : List RV} {vs : List Value} (h : RVal m x v) (k : RVals m xs vs) : RVals m (x :: xs) (v :: vs)
end
mutual
theorem RVal.mono {m m' : Mp} (hm : m.le m') : ∀ {x : RV} {v : Value}, RVal m x v → RVal m' x v
  | _, _, .val v => .val v
  | _, _, .ptr h => .ptr (hm _ _ h)
  | _, _, .known h hl => .known (hm _ _ h) hl
  | _, _, .opened h hl hr => .opened (hm _ _ h) hl hr
  | _, _, .empty a c => .empty a c
  | _, _, .map h => .map (hm _ _ h)
  | _, _, .fn h k => .fn (RVals.mono hm h) (RVals.mono hm k)
  | _, _, .yield h => .yield (hm _ _ h)
  | _, _, .agg h => .agg (RVals.mono hm h)
  | _, _, .tup h => .tup (RVals.mono hm h)
theorem RVals.mono {m m' : Mp} (hm : m.le m') : ∀ {xs : List RV} {vs : List Value}, RVals m xs vs → RVals m' xs vs
  | _, _, .nil => .nil
  | _, _, .cons h k => .cons (RVal.mono hm h) (RVals.mono hm k)
end
theorem RVals.length {m : Mp} : ∀ {xs : List RV} {vs : List Value}, RVals m xs vs → vs.length = xs.length
  | _, _, .nil => rfl
  | _, _, .cons _ k => by simp [RVals.length k]
theorem RVals.get {m : Mp} : ∀ {xs : List RV} {vs : List Value}, RVals m xs vs → ∀ {i : Nat} {x : RV}, xs[i]? = some x → ∃ v, vs[i]? = some v ∧ RVal m x v
  | _, _, .nil, i, x, h => by simp at h
  | _, _, .cons (v := v) h k, 0, x, e => by simp at e; subst e; exact ⟨v, rfl, h⟩
  | _, _, .cons h k, i + 1, x, e => by simpa using RVals.get k (i := i) (by simpa using e)
theorem RVals.append {m : Mp} : ∀ {xs ys : List RV} {vs us : List Value}, RVals m xs vs → RVals m ys us → RVals m (xs ++ ys) (vs ++ us)
  | _, _, _, _, .nil, k => k
  | _, _, _, _, .cons h h', k => .cons h (RVals.append h' k)
theorem RVals.take {m : Mp} : ∀ {xs : List RV} {vs : List Value} (n : Nat), RVals m xs vs → RVals m (xs.take n) (vs.take n)
  | _, _, 0, _ => by simpa using RVals.nil
  | _, _, n + 1, .nil => by simpa using RVals.nil
  | _, _, n + 1, .cons h k => by simpa using RVals.cons h (RVals.take n k)
theorem RVals.drop {m : Mp} : ∀ {xs : List RV} {vs : List Value} (n : Nat), RVals m xs vs → RVals m (xs.drop n) (vs.drop n)
  | _, _, 0, h => by simpa using h
  | _, _, n + 1, .nil => by simpa using RVals.nil
  | _, _, n + 1, .cons h k => by simpa using RVals.drop n k
theorem RVals.vals (m : Mp) : ∀ (l : List Value), RVals m (l.map .val) l
  | [] => .nil
  | v :: l => .cons (.val v) (RVals.vals m l)
/-- the cells of a value -/
theorem RVal.cells {m : Mp} {x : RV} {v : Value} (h : RVal m x v) : RVals m x.cells v.cells.toList := by
  cases h with
  | val v =>
    cases v with
    | agg cs => simpa [RV.cells, Value.cells] using RVals.vals m cs.toList
    | _ => exact .cons (.val _) .nil
  | agg h => simpa [RV.cells, Value.cells] using h
  | ptr h => exact .cons (.ptr h) .nil
  | known h hl => exact .cons (.known h hl) .nil
  | opened h hl hr => exact .cons (.opened h hl hr) .nil
  | empty a c => exact .cons (.empty a c) .nil
  | map h => exact .cons (.map h) .nil
  | fn h k => exact .cons (.fn h k) .nil
  | yield h => exact .cons (.yield h) .nil
  | tup h => exact .cons (.tup h) .nil
mutual
theorem RVal.ground {m : Mp} : ∀ {x : RV} {v u : Value}, RVal m x v → x.ground = some u → v = u
  | _, _, _, .val v, h => by simpa [RV.ground] using h
  | _, _, _, .ptr _, h => by simp [RV.ground] at h
  | _, _, _, .known _ _, h => by simp [RV.ground] at h
  | _, _, _, .opened _ _ _, h => by simp [RV.ground] at h
  | _, _, _, .empty _ _, h => by simp [RV.ground] at h
  | _, _, _, .map _, h => by simp [RV.ground] at h
  | _, _, _, .fn _ _, h => by simp [RV.ground] at h
  | _, _, _, .yield _, h => by simp [RV.ground] at h
  | _, _, _, .tup _, h => by simp [RV.ground] at h
  | _, _, _, .agg (cs := cs) k, h => by
    simp only [RV.ground] at h
    cases hg : RV.grounds cs with
    | none => rw [hg] at h; cases h
    | some vs => rw [hg] at h; simp at h; rw [← h, RVals.ground k hg]
theorem RVals.ground {m : Mp} : ∀ {xs : List RV} {vs us : List Value}, RVals m xs vs → RV.grounds xs = some us → vs = us
  | _, _, _, .nil, h => by simp [RV.grounds] at h; exact h.symm
  | _, _, us, .cons (x := x) (xs := xs) k l, h => by
    simp only [RV.grounds] at h
    cases hg : RV.ground x with
    | none => rw [hg] at h; cases h
    | some v =>
      rw [hg] at h
      simp only at h
      cases hg2 : RV.grounds xs with
      | none => rw [hg2] at h; cases h
      | some vs => rw [hg2] at h; simp at h; rw [← h, RVal.ground k hg, RVals.ground l hg2]
end
def EnvRel (m : Mp) (n : Nat) (e : T RV) (tmps : Array Value) : Prop := tmps.size = n ∧ ∀ t v, e.get t = some v → ∃ u, tmps[t]? = some u ∧ RVal m v u
theorem EnvRel.mono {m m' : Mp} {n : Nat} {e : T RV} {tmps : Array Value} (hm : m.le m') (h : EnvRel m n e tmps) : EnvRel m' n e tmps :=
  ⟨h.1, fun t v ht => let ⟨u, hu, hr⟩ := h.2 t v ht; ⟨u, hu, hr.mono hm⟩⟩
def CellsAt (m : Mp) (h : Array Obj) (p : Pl) (cs : List RV) : Prop :=
  ∃ arr e fz, h[p.b]? = some (.cells arr e fz) ∧ arr.size = p.n ∧ (∀ i, i < arr.size → (decide (fz.1 ≤ i) && decide (i < fz.2)) = false) ∧ p.o + cs.length ≤ arr.size ∧ ∀ i x, cs[i]? = some x → ∃ v, arr[p.o + i]? = some v ∧ RVal m x v
structure EntRel (m : Mp) (a : AEnt) (e : MapEntry) : Prop where
  key : a.key = e.key
  born : a.born = e.born
  val : RVal m a.val e.val
inductive EntsRel (m : Mp) : List AEnt → List MapEntry → Prop
  | nil : EntsRel m [] []
  | cons {a : AEnt} {e : MapEntry} {as : List AEnt} {es : List MapEntry} (h : EntRel m a e) (k : EntsRel m as es) : EntsRel m (a :: as) (e :: es)
theorem EntsRel.mono {m m' : Mp} (hm : m.le m') : ∀ {as : List AEnt} {es : List MapEntry}, EntsRel m as es → EntsRel m' as es
  | _, _, .nil => .nil
  | _, _, .cons h k => .cons ⟨h.key, h.born, h.val.mono hm⟩ (EntsRel.mono hm k)
structure LoopRel (m : Mp) (L : ALoop) (l : Loop) : Prop where
  state : l.state = L.state
  pending : l.pending = L.pending
  params : l.params = L.params.toArray
  assign : l.assign = L.assign
  body : l.body = L.body
  tmps : EnvRel m L.n L.tmps l.tmps
def ORel (m : Mp) (h : Array Obj) (p : Pl) : AObj → Prop
  | .cells cs => CellsAt m h p cs
  | .map es c => ∃ ents : Array MapEntry, h[p.b]? = some (.map ents c) ∧ EntsRel m es ents.toList
  | .loop L => ∃ l, h[p.b]? = some (.loop l) ∧ LoopRel m L l
  | .defd => h[p.b]? = some (.deferred (some []))
theorem ORel.mono {m m' : Mp} {h h' : Array Obj} {p : Pl} {o : AObj} (hm : m.le m') (hh : h'[p.b]? = h[p.b]?) (k : ORel m h p o) : ORel m' h' p o := by
  cases o with
  | cells cs =>
    obtain ⟨arr, e, fz, h1, h2, h3, h5, h4⟩ := k
    exact ⟨arr, e, fz, hh.trans h1, h2, h3, h5, fun i x hx => let ⟨v, hv, hr⟩ := h4 i x hx; ⟨v, hv, hr.mono hm⟩⟩
  | map es c =>
    obtain ⟨ents, h1, h2⟩ := k
    exact ⟨ents, hh.trans h1, h2.mono hm⟩
  | loop L =>
    obtain ⟨l, h1, h2⟩ := k
    exact ⟨l, hh.trans h1, ⟨h2.state, h2.pending, h2.params, h2.assign, h2.body, h2.tmps.mono hm⟩⟩
  | defd => exact hh.trans k
theorem ORel.lt {m : Mp} {h : Array Obj} {p : Pl} {o : AObj} (k : ORel m h p o) : p.b < h.size := by
  have : ∃ x, h[p.b]? = some x := by
    cases o with
    | cells cs => obtain ⟨arr, e, fz, h1, _⟩ := k; exact ⟨_, h1⟩
    | map es c => obtain ⟨ents, h1, h2⟩ := k; exact ⟨_, h1⟩
    | loop L => obtain ⟨l, h1, h2⟩ := k; exact ⟨_, h1⟩
    | defd => exact ⟨_, k⟩
  obtain ⟨x, hx⟩ := this
  exact (Array.getElem?_eq_some_iff.1 hx).1
structure Rel (m : Mp) (H : T AObj) (h : Array Obj) : Prop where
  obj : ∀ id o, H.get id = some o → ∃ p, m id = some p ∧ ORel m h p o
  inj : ∀ id id' o o' p p', H.get id = some o → H.get id' = some o' → m id = some p → m id' = some p' → p.b = p'.b → id = id'
def live (m : Mp) (H : T AObj) (b : Nat) : Prop := ∃ id o p, H.get id = some o ∧ m id = some p ∧ p.b = b
structure Grow (m : Mp) (H : T AObj) (W : World) (m' : Mp) (H' : T AObj) (W' : World) : Prop where
  ext : m.le m'
  size : W.heap.size ≤ W'.heap.size
  keep : ∀ b, b < W.heap.size → ¬ live m H b → W'.heap[b]? = W.heap[b]?
  own : ∀ b, live m' H' b → live m H b ∨ W.heap.size ≤ b
  os : W'.os = W.os
  tape : W'.tape = W.tape
  output : W'.output = W.output
theorem Grow.refl (m : Mp) (H : T AObj) (W : World) : Grow m H W m H W := ⟨.refl m, Nat.le_refl _, fun _ _ _ => rfl, fun _ h => .inl h, rfl, rfl, rfl⟩
theorem Grow.trans {m m1 m2 : Mp} {H H1 H2 : T AObj} {W W1 W2 : World} (a : Grow m H W m1 H1 W1) (b : Grow m1 H1 W1 m2 H2 W2) : Grow m H W m2 H2 W2 := by
  refine ⟨a.ext.trans b.ext, Nat.le_trans a.size b.size, fun q hq hl => ?_, fun q hq => ?_, b.os.trans a.os, b.tape.trans a.tape, b.output.trans a.output⟩
  · rw [← a.keep q hq hl]
    refine b.keep q (Nat.lt_of_lt_of_le hq a.size) fun h1 => ?_
    rcases a.own q h1 with h2 | h2
    · exact hl h2
    · omega
  · rcases b.own q hq with h | h
    · exact a.own q h
    · exact .inr (Nat.le_trans a.size h)
def Sub (H0 H : T AObj) : Prop := ∀ id o, H0.get id = some o → H.get id = some o
theorem Rel.sub {m : Mp} {H H0 : T AObj} {h : Array Obj} (r : Rel m H h) (s : Sub H0 H) : Rel m H0 h :=
  ⟨fun id o ho => r.obj id o (s id o ho), fun id id' o o' p p' h1 h2 => r.inj id id' o o' p p' (s _ _ h1) (s _ _ h2)⟩
theorem live.sub {m : Mp} {H H0 : T AObj} {b : Nat} (s : Sub H0 H) (h : live m H0 b) : live m H b := let ⟨id, o, p, h1, h2, h3⟩ := h; ⟨id, o, p, s _ _ h1, h2, h3⟩
/-- objects let go -/
theorem Rel.drop {m : Mp} {H H0 : T AObj} {W : World} (r : Rel m H W.heap) (s : Sub H0 H) : Rel m H0 W.heap ∧ Grow m H W m H0 W :=
  ⟨r.sub s, ⟨.refl m, Nat.le_refl _, fun _ _ _ => rfl, fun b hb => .inl (hb.sub s), rfl, rfl, rfl⟩⟩
theorem sub_none (H : T AObj) (id : Nat) : Sub (H.set D id none) H := fun j o h => by
  rcases T.get_set D H id none j o h with ⟨_, h⟩ | ⟨_, h⟩
  · cases h
  · exact h
/-- one object made, or changed -/
theorem Rel.step {m m' : Mp} {H H' : T AObj} {W W' : World} {idn : Nat} {on : AObj} {pn : Pl} (r : Rel m H W.heap) (hm : m.le m') (hn : m' idn = some pn) (ho : ORel m' W'.heap pn on)
    (hH : ∀ id o, H'.get id = some o → (id = idn ∧ o = on) ∨ (id ≠ idn ∧ H.get id = some o ∧ ∀ p, m id = some p → p.b ≠ pn.b))
    (hk : ∀ b, b < W.heap.size → b ≠ pn.b → W'.heap[b]? = W.heap[b]?) (hs : W.heap.size ≤ W'.heap.size) (hl : live m H pn.b ∨ W.heap.size ≤ pn.b)
    (h1 : W'.os = W.os) (h2 : W'.tape = W.tape) (h3 : W'.output = W.output) : Rel m' H' W'.heap ∧ Grow m H W m' H' W' := by
  refine ⟨⟨fun id o h => ?_, fun id id' o o' p p' h h' hp hp' hb => ?_⟩, ⟨hm, hs, fun b hb hnl => ?_, fun b hb => ?_, h1, h2, h3⟩⟩
  · rcases hH id o h with ⟨rfl, rfl⟩ | ⟨hne, hg, hb⟩
    · exact ⟨pn, hn, ho⟩
    · obtain ⟨p, hp, hr⟩ := r.obj id o hg
      exact ⟨p, hm _ _ hp, hr.mono hm (hk _ hr.lt (hb p hp))⟩
  · rcases hH id o h with ⟨rfl, rfl⟩ | ⟨hne, hg, hb1⟩
    · rcases hH id' o' h' with ⟨rfl, rfl⟩ | ⟨hne', hg', hb'⟩
      · rfl
      · obtain ⟨q, hq, _⟩ := r.obj id' o' hg'
        have e1 : p = pn := Option.some.inj (hp.symm.trans hn)
        have e2 : p' = q := Option.some.inj (hp'.symm.trans (hm _ _ hq))
        subst e1 e2
        exact absurd hb.symm (hb' _ hq)
    · obtain ⟨q, hq, _⟩ := r.obj id o hg
      have e2 : p = q := Option.some.inj (hp.symm.trans (hm _ _ hq))
      subst e2
      rcases hH id' o' h' with ⟨rfl, rfl⟩ | ⟨hne', hg', hb'⟩
      · have e1 : p' = pn := Option.some.inj (hp'.symm.trans hn)
        subst e1
        exact absurd hb (hb1 _ hq)
      · obtain ⟨q', hq', _⟩ := r.obj id' o' hg'
        have e3 : p' = q' := Option.some.inj (hp'.symm.trans (hm _ _ hq'))
        subst e3
        exact r.inj id id' o o' p p' hg hg' hq hq' hb
  · refine hk b hb fun e => ?_
    subst e
    rcases hl with hl | hl
    · exact hnl hl
    · omega
  · obtain ⟨id, o, p, hg, hp, rfl⟩ := hb
    rcases hH id o hg with ⟨rfl, rfl⟩ | ⟨hne, hg', hb'⟩
    · have e1 : p = pn := Option.some.inj (hp.symm.trans hn)
      subst e1
      exact hl
    · obtain ⟨q, hq, _⟩ := r.obj id o hg'
      have e2 : p = q := Option.some.inj (hp.symm.trans (hm _ _ hq))
      subst e2
      exact .inl ⟨id, o, p, hg', hq, rfl⟩
def upd (m : Mp) (id : Nat) (p : Pl) : Mp := fun j => if j = id then some p else m j
theorem le_upd {m : Mp} {id : Nat} {p : Pl} (h : m id = none) : m.le (upd m id p) := fun j q hq => by
  unfold upd
  split
  · rename_i e; subst e; rw [h] at hq; cases hq
  · exact hq
theorem upd_at (m : Mp) (id : Nat) (p : Pl) : upd m id p id = some p := by simp [upd]
/-- a new block -/
theorem Rel.make {m : Mp} {H : T AObj} {W W' : World} {id : Nat} {o : AObj} {ob : Obj} {o0 n : Nat} (r : Rel m H W.heap) (hid : m id = none) (hW : W'.heap = W.heap.push ob)
    (ho : ORel (upd m id ⟨W.heap.size, o0, n⟩) W'.heap ⟨W.heap.size, o0, n⟩ o) (h1 : W'.os = W.os) (h2 : W'.tape = W.tape) (h3 : W'.output = W.output) :
    Rel (upd m id ⟨W.heap.size, o0, n⟩) (H.set D id (some o)) W'.heap ∧ Grow m H W (upd m id ⟨W.heap.size, o0, n⟩) (H.set D id (some o)) W' := by
  refine r.step (le_upd hid) (upd_at _ _ _) ho (fun j oj hj => ?_) (fun b hb _ => ?_) (by rw [hW]; simp) (.inr (Nat.le_refl _)) h1 h2 h3
  · rcases T.get_set D H id (some o) j oj hj with ⟨rfl, e⟩ | ⟨hne, e⟩
    · exact .inl ⟨rfl, (Option.some.inj e).symm⟩
    · refine .inr ⟨hne, e, fun p hp => ?_⟩
      obtain ⟨q, hq, hr⟩ := r.obj j oj e
      have : p = q := Option.some.inj (hp.symm.trans hq)
      subst this
      have := hr.lt
      show p.b ≠ W.heap.size
      omega
  · rw [hW, Array.getElem?_push_lt hb, Array.getElem?_eq_getElem hb]
/-- a block changed -/
theorem Rel.change {m : Mp} {H : T AObj} {W W' : World} {id : Nat} {o o0 : AObj} {p : Pl} (r : Rel m H W.heap) (h0 : H.get id = some o0) (hp : m id = some p) (ho : ORel m W'.heap p o)
    (hk : ∀ b, b ≠ p.b → W'.heap[b]? = W.heap[b]?) (hs : W'.heap.size = W.heap.size) (h1 : W'.os = W.os) (h2 : W'.tape = W.tape) (h3 : W'.output = W.output) :
    Rel m (H.set D id (some o)) W'.heap ∧ Grow m H W m (H.set D id (some o)) W' := by
  refine r.step (.refl m) hp ho (fun j oj hj => ?_) (fun b _ hb => hk b hb) (by omega) (.inl ⟨id, o0, p, h0, hp, rfl⟩) h1 h2 h3
  rcases T.get_set D H id (some o) j oj hj with ⟨rfl, e⟩ | ⟨hne, e⟩
  · exact .inl ⟨rfl, (Option.some.inj e).symm⟩
  · exact .inr ⟨hne, e, fun q hq hb => hne (r.inj _ _ _ _ _ _ e h0 hq hp hb)⟩
/-- a block under a new name, the old name let go -/
theorem Rel.rename {m : Mp} {H : T AObj} {W W' : World} {id id' : Nat} {o o0 : AObj} {p p' : Pl} (r : Rel m H W.heap) (h0 : H.get id = some o0) (hp : m id = some p) (hid : m id' = none) (hb : p'.b = p.b)
    (ho : ORel (upd m id' p') W'.heap p' o) (hk : ∀ b, b ≠ p.b → W'.heap[b]? = W.heap[b]?) (hs : W'.heap.size = W.heap.size) (h1 : W'.os = W.os) (h2 : W'.tape = W.tape) (h3 : W'.output = W.output) :
    Rel (upd m id' p') ((H.set D id none).set D id' (some o)) W'.heap ∧ Grow m H W (upd m id' p') ((H.set D id none).set D id' (some o)) W' := by
  refine r.step (le_upd hid) (upd_at _ _ _) ho (fun j oj hj => ?_) (fun b _ hb' => hk b (by rw [← hb]; exact hb')) (by omega) (.inl ⟨id, o0, p, h0, hp, hb.symm⟩) h1 h2 h3
  rcases T.get_set D _ id' (some o) j oj hj with ⟨rfl, e⟩ | ⟨hne, e⟩
  · exact .inl ⟨rfl, (Option.some.inj e).symm⟩
  · rcases T.get_set D H id none j oj e with ⟨_, e⟩ | ⟨hne2, e⟩
    · cases e
    · exact .inr ⟨hne, e, fun q hq hqb => hne2 (r.inj _ _ _ _ _ _ e h0 hq hp (hqb.trans hb))⟩
/-! ### Loads and stores -/
theorem calm_run {α : Type} {P : Program} : ∀ {s : Sem α} {a : α}, calm P s = some a → ∀ w, s.run P w = .ok a w
  | .pure a, b, h, w => by simp [calm] at h; subst h; rfl
  | .program k, b, h, w => by
    simp only [calm] at h
    exact calm_run h w
theorem addrN (b o i : Nat) : (⟨b, o, none⟩ : Addr).add i = ⟨b, o + i, none⟩ := by
  unfold Addr.add
  split
  · rename_i h; subst h; rfl
  · rfl
theorem setAt_len : ∀ (cs : List RV) (off : Nat) (vs : List RV), (setAt cs off vs).length = cs.length
  | cs, off, [] => by cases cs <;> cases off <;> rfl
  | [], 0, _ :: _ => rfl
  | [], _ + 1, _ :: _ => rfl
  | _ :: r, 0, v :: vs => by simp [setAt, setAt_len r 0 vs]
  | c :: r, n + 1, v :: vs => by simp [setAt, setAt_len r n (v :: vs)]
theorem setAt_get : ∀ (cs : List RV) (off : Nat) (vs : List RV) (i : Nat), off + vs.length ≤ cs.length → (setAt cs off vs)[i]? = if off ≤ i ∧ i < off + vs.length then vs[i - off]? else cs[i]?
  | cs, off, [], i, _ => by
    have e : setAt cs off [] = cs := by cases cs <;> cases off <;> rfl
    rw [e, if_neg (by simp only [List.length_nil]; omega)]
  | [], off, v :: vs, i, h => by simp at h
  | c :: r, 0, v :: vs, 0, h => by simp [setAt]
  | c :: r, 0, v :: vs, i + 1, h => by
    have := setAt_get r 0 vs i (by simpa using h)
    simp only [setAt, List.getElem?_cons_succ, this, List.length_cons, Nat.zero_add, Nat.zero_le, true_and, Nat.sub_zero]
    by_cases hi : i < vs.length
    · rw [if_pos hi, if_pos (by omega)]
    · rw [if_neg hi, if_neg (by omega)]
  | c :: r, n + 1, v :: vs, 0, h => by
    rw [if_neg (by omega)]
    rfl
  | c :: r, n + 1, v :: vs, i + 1, h => by
    have := setAt_get r n (v :: vs) i (by simp at h ⊢; omega)
    simp only [setAt, List.getElem?_cons_succ, this]
    by_cases hi : n ≤ i ∧ i < n + (v :: vs).length
    · rw [if_pos hi, if_pos (by omega), Nat.add_sub_add_right]
    · rw [if_neg hi, if_neg (by omega)]
/-- a value that fits into one cell -/
def oneC : Value → Bool
  | .agg _ => false
  | .tuple _ => false
  | _ => true
theorem RVal.one {m : Mp} {x : RV} {v : Value} (h : RVal m x v) (h1 : x.one = true) : oneC v = true := by
  cases h with
  | val v => cases v <;> simp [RV.one] at h1 <;> rfl
  | agg h => simp [RV.one] at h1
  | tup h => simp [RV.one] at h1
  | _ => rfl
theorem ones_spec : ∀ {l : List RV}, ones l = true → ∀ x ∈ l, x.one = true
  | [], _, x, hx => by cases hx
  | a :: r, h, x, hx => by
    simp only [ones] at h
    cases h1 : a.one with
    | false => rw [h1] at h; cases h
    | true =>
      rw [h1] at h
      rcases List.mem_cons.1 hx with rfl | hx
      · exact h1
      · exact ones_spec (by simpa using h) x hx
theorem RVals.ones {m : Mp} : ∀ {xs : List RV} {vs : List Value}, RVals m xs vs → ones xs = true → ∀ v ∈ vs, oneC v = true
  | _, _, .nil, _, v, hv => by cases hv
  | _, _, .cons (x := x) h k, h1, v, hv => by
    simp only [Ev.ones] at h1
    cases h2 : x.one with
    | false => rw [h2] at h1; cases h1
    | true =>
      rw [h2] at h1
      rcases List.mem_cons.1 hv with rfl | hv
      · exact h.one h2
      · exact RVals.ones k (by simpa using h1) v hv
section
variable {P : Program} {m : Mp}
theorem r_underlying {t : TypeId} {d : TypeDesc} (h : P.underlying t = some d) (w : World) : (underlying t).run P w = .ok d w := by simp [underlying, h]
theorem info_of_size {t : TypeId} {n : Nat} (h : sizeOf? P t = some n) : ∃ i, P.info? t = some i ∧ i.size = n := by
  unfold sizeOf? at h
  cases hi : P.info? t with
  | none => rw [hi] at h; cases h
  | some i => rw [hi] at h; exact ⟨i, rfl, Option.some.inj h⟩
theorem r_typeInfo {t : TypeId} {i : TypeInfo} (h : P.info? t = some i) (w : World) : (typeInfo t).run P w = .ok i w := by simp [typeInfo, h]
theorem r_sizeOf {t : TypeId} {n : Nat} (h : sizeOf? P t = some n) (w : World) : (sizeOf t).run P w = .ok n w := by
  obtain ⟨i, h1, h2⟩ := info_of_size h
  simp [sizeOf, r_typeInfo h1, h2]
theorem r_bytes {t : TypeId} {n : Nat} (h : bytesOf? P t = some n) (w : World) : ∃ i, (typeInfo t).run P w = .ok i w ∧ i.bytes = n := by
  unfold bytesOf? at h
  cases hi : P.info? t with
  | none => rw [hi] at h; cases h
  | some i => rw [hi] at h; exact ⟨i, r_typeInfo hi w, Option.some.inj h⟩
theorem r_zero {t : TypeId} {z : Value} (h : zero? P t = some z) (w : World) : (zeroValue t).run P w = .ok z w := by
  unfold zero? at h
  cases hi : P.info? t with
  | none => rw [hi] at h; cases h
  | some i => rw [hi] at h; simp only at h; simp [zeroValue, r_typeInfo hi, h]
theorem r_isAgg {t : TypeId} {b : Bool} (h : isAgg? P t = some b) (w : World) : (isAgg t).run P w = .ok b w := by
  unfold isAgg? at h
  cases hd : P.underlying t with
  | none => rw [hd] at h; cases h
  | some d =>
    rw [hd] at h
    simp only [Option.some.injEq] at h
    subst h
    simp only [isAgg, Sem.run_bind, r_underlying hd, Result.andThen_ok]
    cases d <;> rfl
theorem collect {c : Nat → Option Value} : ∀ {xs : List RV}, (∀ i x, xs[i]? = some x → ∃ v, c i = some v ∧ RVal m x v) → ∃ vs, RVals m xs vs ∧ ∀ i v, vs[i]? = some v → c i = some v := by
  intro xs
  induction xs generalizing c with
  | nil => intro _; exact ⟨[], .nil, fun i v h => by simp at h⟩
  | cons x r ih =>
    intro h
    obtain ⟨v, hv, hr⟩ := h 0 x rfl
    obtain ⟨vs, h1, h2⟩ := ih (c := fun i => c (i + 1)) (fun i y hy => h (i + 1) y (by simpa using hy))
    refine ⟨v :: vs, .cons hr h1, fun i u hu => ?_⟩
    cases i with
    | zero => simp at hu; subst hu; exact hv
    | succ i => exact h2 i u (by simpa using hu)
theorem r_loadCellsFrom {W : World} {b o : Nat} : ∀ {vs : List Value} {k : Nat} {acc : Array Value}, (∀ i v, vs[i]? = some v → W.cell? ⟨b, o + (k + i), none⟩ = some v) → (loadCellsFrom ⟨b, o, none⟩ k vs.length acc).run P W = .ok (acc ++ vs.toArray) W
  | [], k, acc, _ => by simp [loadCellsFrom]
  | v :: r, k, acc, h => by
    have h0 := h 0 v rfl
    simp only [List.length_cons, loadCellsFrom, Sem.run_bind, run_load, addrN]
    rw [Nat.add_zero] at h0
    rw [h0]
    simp only [Result.andThen_ok]
    have := r_loadCellsFrom (W := W) (b := b) (o := o) (vs := r) (k := k + 1) (acc := acc.push v) (fun i u hu => by
      have := h (i + 1) u (by simpa using hu)
      rwa [show k + (i + 1) = k + 1 + i by omega] at this)
    rw [this]
    congr 1
    simp
theorem r_loadCells {W : World} {b o : Nat} {vs : List Value} (h : ∀ i v, vs[i]? = some v → W.cell? ⟨b, o + i, none⟩ = some v) : (loadCells ⟨b, o, none⟩ vs.length).run P W = .ok vs.toArray W := by
  unfold loadCells
  rw [r_loadCellsFrom (fun i v hv => by rw [Nat.zero_add]; exact h i v hv)]
  simp
theorem CellsAt.cell {W : World} {p : Pl} {cs : List RV} (h : CellsAt m W.heap p cs) {i : Nat} {x : RV} (hx : cs[i]? = some x) : ∃ v, W.cell? ⟨p.b, p.o + i, none⟩ = some v ∧ RVal m x v := by
  obtain ⟨arr, e, fz, h1, h2, h3, h5, h4⟩ := h
  obtain ⟨v, hv, hr⟩ := h4 i x hx
  exact ⟨v, by simp [World.cell?, h1, hv], hr⟩
theorem CellsAt.seg {W : World} {p : Pl} {cs : List RV} (h : CellsAt m W.heap p cs) {off n : Nat} (hn : off + n ≤ cs.length) : ∃ vs : List Value, RVals m ((cs.drop off).take n) vs ∧ vs.length = n ∧ ∀ i v, vs[i]? = some v → W.cell? ⟨p.b, p.o + off + i, none⟩ = some v := by
  obtain ⟨vs, h1, h2⟩ := collect (m := m) (c := fun i => W.cell? ⟨p.b, p.o + off + i, none⟩) (xs := (cs.drop off).take n) (fun i x hx => by
    rw [List.getElem?_take] at hx
    split at hx
    · rw [List.getElem?_drop] at hx
      obtain ⟨v, hv, hr⟩ := h.cell hx
      rw [← Nat.add_assoc] at hv
      exact ⟨v, hv, hr⟩
    · cases hx)
  refine ⟨vs, h1, ?_, h2⟩
  rw [h1.length, List.length_take, List.length_drop]
  omega
theorem r_part {W : World} {p : Pl} {cs : List RV} {t : TypeId} {off : Nat} {x : RV} (h : part? P t cs off = some x) (hc : CellsAt m W.heap p cs) : ∃ v, (loadVar t ⟨p.b, p.o + off, none⟩).run P W = .ok v W ∧ RVal m x v := by
  unfold part? at h
  cases ha : isAgg? P t with
  | none => rw [ha] at h; cases h
  | some b =>
    rw [ha] at h
    cases b with
    | true =>
      simp only at h
      cases hs : sizeOf? P t with
      | none => rw [hs] at h; cases h
      | some n =>
        rw [hs] at h
        simp only at h
        cases hb : Nat.ble (off + n) cs.length with
        | false => rw [hb] at h; cases h
        | true =>
          rw [hb] at h
          simp only [cond_true, Option.some.injEq] at h
          subst h
          obtain ⟨vs, h1, h2, h3⟩ := hc.seg (Nat.le_of_ble_eq_true hb)
          refine ⟨.agg vs.toArray, ?_, .agg h1⟩
          simp only [loadVar, Sem.run_bind, r_isAgg ha, Result.andThen_ok, if_true, r_sizeOf hs]
          rw [← h2, r_loadCells (fun i v hv => h3 i v hv)]
          rfl
    | false =>
      simp only at h
      obtain ⟨v, hv, hr⟩ := hc.cell h
      refine ⟨v, ?_, hr⟩
      simp only [loadVar, Sem.run_bind, r_isAgg ha, Result.andThen_ok, Bool.false_eq_true, if_false, run_load, hv]
theorem r_partV {W : World} {xs : List RV} {vs : List Value} {t : TypeId} {off : Nat} {x : RV} (h : part? P t xs off = some x) (hr : RVals m xs vs) : ∃ v, (part t vs.toArray off).run P W = .ok v W ∧ RVal m x v := by
  unfold part? at h
  cases ha : isAgg? P t with
  | none => rw [ha] at h; cases h
  | some b =>
    rw [ha] at h
    cases b with
    | true =>
      simp only at h
      cases hs : sizeOf? P t with
      | none => rw [hs] at h; cases h
      | some n =>
        rw [hs] at h
        simp only at h
        cases hb : Nat.ble (off + n) xs.length with
        | false => rw [hb] at h; cases h
        | true =>
          rw [hb] at h
          simp only [cond_true, Option.some.injEq] at h
          subst h
          refine ⟨.agg ((vs.drop off).take n).toArray, ?_, .agg ((hr.drop off).take n)⟩
          simp only [part, Sem.run_bind, r_isAgg ha, Result.andThen_ok, if_true, r_sizeOf hs]
          simp [List.drop_take]
    | false =>
      simp only at h
      obtain ⟨v, hv, hr⟩ := hr.get h
      refine ⟨v, ?_, hr⟩
      simp only [part, Sem.run_bind, r_isAgg ha, Result.andThen_ok, Bool.false_eq_true, if_false]
      simp [hv]
/-- stores in a row -/
theorem r_storeCells {b : Nat} : ∀ {vs : List Value} {W : World} {o i : Nat} {arr : Array Value} {e : TypeId} {fz : Nat × Nat}, W.heap[b]? = some (.cells arr e fz) → (∀ i, i < arr.size → (decide (fz.1 ≤ i) && decide (i < fz.2)) = false) →
    o + i + vs.length ≤ arr.size → (∀ v ∈ vs, oneC v = true) →
    ∃ W' arr', (storeCells ⟨b, o, none⟩ vs i).run P W = .ok () W' ∧ W'.heap[b]? = some (.cells arr' e fz) ∧ arr'.size = arr.size ∧ (∀ j, arr'[j]? = if o + i ≤ j ∧ j < o + i + vs.length then vs[j - (o + i)]? else arr[j]?) ∧ (∀ c, c ≠ b → W'.heap[c]? = W.heap[c]?) ∧ W'.heap.size = W.heap.size ∧ W'.os = W.os ∧ W'.tape = W.tape ∧ W'.output = W.output
  | [], W, o, i, arr, e, fz, hb, hf, hl, h1 => ⟨W, arr, rfl, hb, rfl, fun j => by rw [if_neg (by simp only [List.length_nil]; omega)], fun _ _ => rfl, rfl, rfl, rfl, rfl⟩
  | v :: r, W, o, i, arr, e, fz, hb, hf, hl, h1 => by
    simp only [List.length_cons] at hl
    have hlt : o + i < arr.size := by omega
    have hc : W.cell? ⟨b, o + i, none⟩ = some arr[o + i] := by simp [World.cell?, hb, hlt]
    have hz : W.frozen? ⟨b, o + i, none⟩ = false := by
      have := hf (o + i) hlt
      simp only [World.frozen?, hb]
      exact this
    have hb2 : (W.setCell ⟨b, o + i, none⟩ v).heap[b]? = some (.cells (arr.setIfInBounds (o + i) v) e fz) := by simp [World.setCell, Array.getElem?_modify, hb]
    obtain ⟨W', arr', k1, k2, k3, k4, k5, k6, k7, k8, k9⟩ := r_storeCells (b := b) (vs := r) (W := W.setCell ⟨b, o + i, none⟩ v) (o := o) (i := i + 1) hb2 (by rw [Array.size_setIfInBounds]; exact hf) (by rw [Array.size_setIfInBounds]; omega) (fun u hu => h1 u (by simp [hu]))
    have hst : (store ⟨b, o + i, none⟩ v).run P W = .ok () (W.setCell ⟨b, o + i, none⟩ v) := by
      have h2 := h1 v (by simp)
      unfold store
      cases v <;> simp [oneC] at h2 <;> simp only [Sem.run, hc, hz, Bool.false_eq_true, if_false]
    refine ⟨W', arr', ?_, k2, by rw [k3, Array.size_setIfInBounds], fun j => ?_, fun c hcb => ?_, by rw [k6]; simp [World.setCell], k7, k8, k9⟩
    · simp only [storeCells, Sem.run_bind, addrN, hst, Result.andThen_ok, k1]
    · rw [k4 j]
      by_cases hj : j = o + i
      · subst hj
        rw [if_neg (by omega), if_pos (by simp only [List.length_cons]; omega), Nat.sub_self, Array.getElem?_setIfInBounds_self_of_lt hlt]
        rfl
      · rw [Array.getElem?_setIfInBounds_ne (Ne.symm hj)]
        by_cases hk : o + (i + 1) ≤ j ∧ j < o + (i + 1) + r.length
        · rw [if_pos hk, if_pos (by simp only [List.length_cons]; omega), show j - (o + i) = (j - (o + (i + 1))) + 1 by omega, List.getElem?_cons_succ]
        · rw [if_neg hk, if_neg (by simp only [List.length_cons]; omega)]
    · rw [k5 c hcb]
      simp [World.setCell, Array.getElem?_modify, Ne.symm hcb]
/-- the cells of an object behind a store -/
theorem r_store {W : World} {H : T AObj} {p : Pl} {id off : Nat} {cs xs : List RV} {vs : List Value} (r : Rel m H W.heap) (hg : H.get id = some (.cells cs)) (hp : m id = some p) (hx : RVals m xs vs) (h1 : ones xs = true) (hl : off + xs.length ≤ cs.length) :
    ∃ W', (storeCells ⟨p.b, p.o + off, none⟩ vs).run P W = .ok () W' ∧ Rel m (H.set D id (some (.cells (setAt cs off xs)))) W'.heap ∧ Grow m H W m (H.set D id (some (.cells (setAt cs off xs)))) W' := by
  obtain ⟨q, hq, arr, e, fz, a1, a2, a3, hsz, a4⟩ := r.obj id _ hg
  have e1 : q = p := Option.some.inj (hq.symm.trans hp)
  subst e1
  have hlen := hx.length
  obtain ⟨W', arr', k1, k2, k3, k4, k5, k6, k7, k8, k9⟩ := r_storeCells (P := P) (b := q.b) (vs := vs) (W := W) (o := q.o + off) (i := 0) a1 a3 (by omega) (hx.ones h1)
  refine ⟨W', k1, r.change hg hp ⟨arr', e, fz, k2, by rw [k3]; exact a2, by rw [k3]; exact a3, by rw [k3, setAt_len]; exact hsz, fun i x hi => ?_⟩ k5 k6 k7 k8 k9⟩
  rw [setAt_get cs off xs i hl] at hi
  rw [k4 (q.o + i)]
  by_cases hj : off ≤ i ∧ i < off + xs.length
  · rw [if_pos hj] at hi
    rw [if_pos (by omega), show q.o + i - (q.o + off + 0) = i - off by omega]
    obtain ⟨v, hv, hr⟩ := hx.get hi
    exact ⟨v, hv, hr⟩
  · rw [if_neg hj] at hi
    rw [if_neg (by omega)]
    exact a4 i x hi
end
section
variable {P : Program} {m : Mp}
theorem RVal.val_inv {v u : Value} (h : RVal m (.val v) u) : u = v := by cases h; rfl
theorem RVal.ptr_inv {id off : Nat} {u : Value} (h : RVal m (.ptr id off) u) : ∃ p, m id = some p ∧ u = .pointer (some ⟨p.b, p.o + off, none⟩) := by cases h with | ptr h => exact ⟨_, h, rfl⟩
theorem RVal.known_inv {id off len c : Nat} {u : Value} (h : RVal m (.slice id off len (.known c)) u) : ∃ p, m id = some p ∧ len ≤ c ∧ u = .slice (some ⟨p.b, p.o + off, none⟩) len c := by cases h with | known h hl => exact ⟨_, h, hl, rfl⟩
theorem RVal.opened_inv {id off len sz : Nat} {u : Value} (h : RVal m (.slice id off len (.opened sz)) u) : ∃ p c, m id = some p ∧ len ≤ c ∧ p.o + off + c * sz ≤ p.n ∧ u = .slice (some ⟨p.b, p.o + off, none⟩) len c := by cases h with | opened h hl hr => exact ⟨_, _, h, hl, hr, rfl⟩
theorem RVal.slice_inv {id off len : Nat} {cp : Cp} {u : Value} (h : RVal m (.slice id off len cp) u) : ∃ p c, m id = some p ∧ len ≤ c ∧ u = .slice (some ⟨p.b, p.o + off, none⟩) len c := by
  cases cp with
  | known c => obtain ⟨p, h1, h2, h3⟩ := h.known_inv; exact ⟨p, c, h1, h2, h3⟩
  | opened sz => obtain ⟨p, c, h1, h2, _, h3⟩ := h.opened_inv; exact ⟨p, c, h1, h2, h3⟩
theorem RVal.empty_inv {u : Value} (h : RVal m .empty u) : ∃ a c, u = .slice (some a) 0 c := by cases h; exact ⟨_, _, rfl⟩
theorem RVal.map_inv {id : Nat} {u : Value} (h : RVal m (.map id) u) : ∃ p, m id = some p ∧ u = .map (some p.b) := by cases h with | map h => exact ⟨_, h, rfl⟩
theorem RVal.fn_inv {f : FuncId} {xs cs : List RV} {u : Value} (h : RVal m (.fn f xs cs) u) : ∃ vs us, RVals m xs vs ∧ RVals m cs us ∧ u = .func (.func f) vs.toArray us.toArray := by cases h with | fn h k => exact ⟨_, _, h, k, rfl⟩
theorem RVal.yield_inv {id : Nat} {u : Value} (h : RVal m (.yield id) u) : ∃ p, m id = some p ∧ u = .func (.yield p.b) #[] #[] := by cases h with | yield h => exact ⟨_, h, rfl⟩
theorem RVal.agg_inv {cs : List RV} {u : Value} (h : RVal m (.agg cs) u) : ∃ vs, RVals m cs vs ∧ u = .agg vs.toArray := by cases h with | agg h => exact ⟨_, h, rfl⟩
theorem RVal.tup_inv {cs : List RV} {u : Value} (h : RVal m (.tup cs) u) : ∃ vs, RVals m cs vs ∧ u = .tuple vs.toArray := by cases h with | tup h => exact ⟨_, h, rfl⟩
/-- what an operation does: the object map grows by at most the next number -/
def Res (P : Program) (m : Mp) (s : S) (W : World) (x : Sem Next) (v : RV) (s' : S) : Prop :=
  ∃ m' W', Rel m' s'.H W'.heap ∧ Grow m s.H W m' s'.H W' ∧ (∀ id, id ≠ s.nx → m' id = m id) ∧ ((s'.nx = s.nx ∧ m' s.nx = none) ∨ s'.nx = s.nx + 1) ∧
    ((∃ u, x.run P W = .ok (.value u) W' ∧ RVal m' v u) ∨ (x.run P W = .ok .skip W' ∧ v = .val undef))
def Eval (m : Mp) (e : T RV) (ρ : Operand → Value) : Prop := ∀ x v, opnd e x = some v → RVal m v (ρ x)
theorem res_read {s : S} {W : World} {x : Sem Next} {v : RV} {u : Value} (r : Rel m s.H W.heap) (hn : m s.nx = none) (hx : x.run P W = .ok (.value u) W) (hv : RVal m v u) : Res P m s W x v s :=
  ⟨m, W, r, .refl _ _ _, fun _ _ => rfl, .inl ⟨rfl, hn⟩, .inl ⟨u, hx, hv⟩⟩
/-- a value without a change of the world, of the form of an operation -/
theorem res_val {s : S} {W : World} {x : Sem Value} {v : RV} {u : Value} (r : Rel m s.H W.heap) (hn : m s.nx = none) (hx : x.run P W = .ok u W) (hv : RVal m v u) : Res P m s W (do pure (.value (← x))) v s :=
  res_read r hn (by simp [hx]) hv
theorem Eval.list {e : T RV} {ρ : Operand → Value} (he : Eval m e ρ) : ∀ {xs : List Operand} {vs : List RV}, opnds e xs = some vs → RVals m vs (xs.map ρ)
  | [], vs, h => by simp [opnds] at h; subst h; exact .nil
  | x :: r, vs, h => by
    simp only [opnds] at h
    split at h
    · rename_i v hv
      split at h
      · rename_i ws hw
        simp only [Option.some.injEq] at h
        subst h
        exact .cons (he x v hv) (he.list hw)
      · cases h
    · cases h
theorem res_new {s : S} {W : World} {x : Sem Next} {cs : List RV} {vs : List Value} {t : TypeId} {v : RV} {u : Value} (r : Rel m s.H W.heap) (hn : m s.nx = none) (hc : RVals m cs vs)
    (hx : x.run P W = .ok (.value u) { W with heap := W.heap.push (.cells vs.toArray t (0, 0)) }) (hv : RVal (upd m s.nx ⟨W.heap.size, 0, vs.length⟩) v u) : Res P m s W x v (s.new (.cells cs)) := by
  obtain ⟨h1, h2⟩ := r.make (W' := { W with heap := W.heap.push (.cells vs.toArray t (0, 0)) }) (o := .cells cs) (o0 := 0) (n := vs.length) hn rfl
    ⟨vs.toArray, t, (0, 0), by simp, by simp, fun i _ => by simp, by simp [hc.length], fun i y hy => by
      obtain ⟨w, hw, hr⟩ := hc.get hy
      exact ⟨w, by simpa using hw, hr.mono (le_upd hn)⟩⟩ rfl rfl rfl
  exact ⟨_, _, h1, h2, fun id hid => if_neg hid, .inr rfl, .inl ⟨u, hx, hv⟩⟩
variable {e : T RV} {ρ : Operand → Value} {s s' : S} {W : World} {o : Oper} {v : RV}
theorem ok_move {x : Operand} (ho : o.op = .move x ∨ o.op = .assign x) (h : opEv P e s o = some (v, s')) (he : Eval m e ρ) (r : Rel m s.H W.heap) (hn : m s.nx = none) : Res P m s W (execOp ρ o) v s' := by
  rcases ho with ho | ho <;>
  · simp only [opEv, ho] at h
    split at h
    · rename_i w hw
      simp only [Option.some.injEq, Prod.mk.injEq] at h
      obtain ⟨rfl, rfl⟩ := h
      refine res_read r hn (u := ρ x) ?_ (he x _ hw)
      simp [execOp, ho]
    · cases h
theorem ok_pick {c a b : Operand} (ho : o.op = .pick c a b) (h : opEv P e s o = some (v, s')) (he : Eval m e ρ) (r : Rel m s.H W.heap) (hn : m s.nx = none) : Res P m s W (execOp ρ o) v s' := by
  simp only [opEv, ho] at h
  split at h
  · rename_i t ht
    split at h
    · rename_i w hw
      simp only [Option.some.injEq, Prod.mk.injEq] at h
      obtain ⟨rfl, rfl⟩ := h
      have hb : ρ c = .bool t := (he c _ ht).val_inv
      refine res_read r hn (u := ρ (if t then a else b)) ?_ ?_
      · simp only [execOp, ho, hb, asBool]
        cases t <;> simp
      · have := he _ _ hw
        cases t <;> simpa using this
    · cases h
  · cases h
theorem zero_cells (m : Mp) (z : Value) : RVals m (RV.val z).cells z.cells.toList := (RVal.val (m := m) z).cells
theorem ok_alloc {t : TypeId} (ho : o.op = .alloc t) (h : opEv P e s o = some (v, s')) (he : Eval m e ρ) (r : Rel m s.H W.heap) (hn : m s.nx = none) : Res P m s W (execOp ρ o) v s' := by
  simp only [opEv, ho] at h
  split at h
  · rename_i z hz
    cases h1 : ones (RV.val z).cells with
    | false => rw [h1] at h; cases h
    | true =>
      rw [h1] at h
      simp only [cond_true, Option.some.injEq, Prod.mk.injEq] at h
      obtain ⟨rfl, rfl⟩ := h
      refine res_new (t := t) r hn (zero_cells m z) (u := .pointer (some ⟨W.heap.size, 0, none⟩)) ?_ ?_
      · simp [execOp, ho, Instr.alloc, r_zero hz, newVar, newRow]
      · exact .ptr (off := 0) (upd_at _ _ _)
  · cases h
theorem ok_box {t : TypeId} {x : Operand} (ho : o.op = .box t x) (h : opEv P e s o = some (v, s')) (he : Eval m e ρ) (r : Rel m s.H W.heap) (hn : m s.nx = none) : Res P m s W (execOp ρ o) v s' := by
  simp only [opEv, ho] at h
  split at h
  · rename_i z hz
    cases h1 : ones z.cells with
    | false => rw [h1] at h; cases h
    | true =>
      rw [h1] at h
      simp only [cond_true, Option.some.injEq, Prod.mk.injEq] at h
      obtain ⟨rfl, rfl⟩ := h
      refine res_new (t := t) r hn (he x _ hz).cells (u := .pointer (some ⟨W.heap.size, 0, none⟩)) ?_ ?_
      · simp [execOp, ho, Instr.box, newVar, newRow]
      · exact .ptr (off := 0) (upd_at _ _ _)
  · cases h
/-! build -/
theorem r_foldl_set : ∀ (vs : List Value) (off : Nat) (cs : Array Value) (k : Nat), (vs.zipIdx k).foldl (fun cs (x : Value × Nat) => cs.setIfInBounds (off + x.2) x.1) cs = (vs.zipIdx k).foldl (fun cs (x : Value × Nat) => cs.setIfInBounds (off + x.2) x.1) cs := fun _ _ _ _ => rfl
theorem fold_set_get : ∀ (vs : List Value) (off k : Nat) (cs : Array Value), off + k + vs.length ≤ cs.size →
    (((vs.zipIdx k).foldl (fun (cs : Array Value) (x : Value × Nat) => cs.setIfInBounds (off + x.2) x.1) cs).size = cs.size) ∧
    ∀ j, ((vs.zipIdx k).foldl (fun (cs : Array Value) (x : Value × Nat) => cs.setIfInBounds (off + x.2) x.1) cs)[j]? = if off + k ≤ j ∧ j < off + k + vs.length then vs[j - (off + k)]? else cs[j]?
  | [], off, k, cs, _ => ⟨rfl, fun j => by rw [if_neg (by simp only [List.length_nil]; omega)]; rfl⟩
  | v :: r, off, k, cs, h => by
    simp only [List.length_cons] at h
    obtain ⟨h1, h2⟩ := fold_set_get r off (k + 1) (cs.setIfInBounds (off + k) v) (by rw [Array.size_setIfInBounds]; omega)
    simp only [List.zipIdx_cons, List.foldl_cons]
    refine ⟨by rw [h1, Array.size_setIfInBounds], fun j => ?_⟩
    rw [h2 j]
    by_cases hj : j = off + k
    · subst hj
      rw [if_neg (by omega), if_pos (by simp only [List.length_cons]; omega), Nat.sub_self, Array.getElem?_setIfInBounds_self_of_lt (by omega)]
      rfl
    · rw [Array.getElem?_setIfInBounds_ne (Ne.symm hj)]
      by_cases hk : off + (k + 1) ≤ j ∧ j < off + (k + 1) + r.length
      · rw [if_pos hk, if_pos (by simp only [List.length_cons]; omega), show j - (off + k) = (j - (off + (k + 1))) + 1 by omega, List.getElem?_cons_succ]
      · rw [if_neg hk, if_neg (by simp only [List.length_cons]; omega)]
theorem RVals.of_get : ∀ {xs : List RV} {vs : List Value}, xs.length = vs.length → (∀ (i : Nat) (x : RV), xs[i]? = some x → ∃ v, vs[i]? = some v ∧ RVal m x v) → RVals m xs vs
  | [], [], _, _ => .nil
  | x :: xs, v :: vs, hl, h => by
    obtain ⟨w, hw, hr⟩ := h 0 x rfl
    simp at hw
    subst hw
    exact .cons hr (RVals.of_get (by simpa using hl) fun i y hy => by simpa using h (i + 1) y (by simpa using hy))
  | [], _ :: _, hl, _ => by simp at hl
  | _ :: _, [], hl, _ => by simp at hl
theorem fill_ok {place place' : Nat → Option (Nat × Nat)} : ∀ {l : List (Nat × RV)} {lv : List (Nat × Value)} {cs out : List RV} {vs : List Value}, fillS place cs l = some out → (∀ i q, place i = some q → place' i = some q) → RVals m cs vs →
    l.length = lv.length → (∀ (k i : Nat) (x : RV), l[k]? = some (i, x) → ∃ u, lv[k]? = some (i, u) ∧ RVal m x u) → ∃ arr, Instr.fill place' vs.toArray lv = some arr ∧ RVals m out arr.toList
  | [], [], cs, out, vs, h, _, hr, _, _ => by
    simp [fillS] at h
    subst h
    exact ⟨vs.toArray, rfl, by simpa using hr⟩
  | (i, x) :: l, [], cs, out, vs, h, hp, hr, hl, hk => by simp at hl
  | [], _ :: _, cs, out, vs, h, hp, hr, hl, hk => by simp at hl
  | (i, x) :: l, (j, u) :: lv, cs, out, vs, h, hp, hr, hl, hk => by
    obtain ⟨u', hu', hxu⟩ := hk 0 i x rfl
    simp only [List.getElem?_cons_zero, Option.some.injEq, Prod.mk.injEq] at hu'
    obtain ⟨rfl, rfl⟩ := hu'
    simp only [fillS] at h
    split at h
    · rename_i off size hpl
      cases hc : (x.cells.length == size && Nat.ble (off + size) cs.length) with
      | false => rw [hc] at h; cases h
      | true =>
        rw [hc] at h
        simp only [Bool.and_eq_true, beq_iff_eq] at hc
        obtain ⟨c1, c2⟩ := hc
        have c2 := Nat.le_of_ble_eq_true c2
        have hxc := hxu.cells
        have hxl := hxc.length
        have hvl := hr.length
        obtain ⟨f1, f2⟩ := fold_set_get u.cells.toList off 0 vs.toArray (by simp at *; omega)
        have harr : RVals m (setAt cs off x.cells) ((u.cells.toList.zipIdx 0).foldl (fun (cs : Array Value) (x : Value × Nat) => cs.setIfInBounds (off + x.2) x.1) vs.toArray).toList := by
          refine RVals.of_get (by rw [setAt_len]; simp [f1, hvl]) fun k y hy => ?_
          rw [setAt_get cs off x.cells k (by omega)] at hy
          rw [Array.getElem?_toList, f2 k]
          by_cases hj : off ≤ k ∧ k < off + x.cells.length
          · rw [if_pos hj] at hy
            rw [if_pos (by omega), Nat.add_zero]
            exact hxc.get hy
          · rw [if_neg hj] at hy
            rw [if_neg (by omega)]
            simpa using hr.get hy
        obtain ⟨arr, a1, a2⟩ := fill_ok (place' := place') (lv := lv) (by simpa using h) hp harr (by simpa using hl) (fun k i y hy => by simpa using hk (k + 1) i y (by simpa using hy))
        refine ⟨arr, ?_, a2⟩
        simp only [Instr.fill, hp _ _ hpl]
        have hu1 : u.cells.size = size := by have : u.cells.toList.length = u.cells.size := by simp
                                             omega
        rw [if_neg (by simp [hu1]; omega)]
        rw [← a1]
        congr 1
        rw [← Array.foldl_toList, Array.toList_zipIdx]
    · cases h
end
section
variable {P : Program} {m : Mp} {e : T RV} {ρ : Operand → Value} {s s' : S} {W : World} {o : Oper} {v : RV}
theorem pairs_ok (he : Eval m e ρ) : ∀ {ps : List (Nat × Operand)} {l : List (Nat × RV)}, pairs e ps = some l → l.length = (ps.map fun (i, x) => (i, ρ x)).length ∧ ∀ (k i : Nat) (x : RV), l[k]? = some (i, x) → ∃ u, (ps.map fun (i, x) => (i, ρ x))[k]? = some (i, u) ∧ RVal m x u
  | [], l, h => by simp [pairs] at h; subst h; exact ⟨rfl, fun k i x h => by simp at h⟩
  | (j, y) :: ps, l, h => by
    simp only [pairs] at h
    split at h
    · rename_i w hw
      split at h
      · rename_i ws hws
        simp only [Option.some.injEq] at h
        subst h
        obtain ⟨h1, h2⟩ := pairs_ok he hws
        refine ⟨by simp at h1; simp [h1], fun k i x hk => ?_⟩
        cases k with
        | zero =>
          simp only [List.getElem?_cons_zero, Option.some.injEq, Prod.mk.injEq] at hk
          obtain ⟨rfl, rfl⟩ := hk
          exact ⟨_, rfl, he y _ hw⟩
        | succ k =>
          obtain ⟨u, hu, hr⟩ := h2 k i x (by simpa using hk)
          exact ⟨u, by simpa using hu, hr⟩
      · cases h
    · cases h
theorem placesS_run : ∀ {fs : List Field} {pl : List (Nat × Nat)}, placesS P fs = some pl → (fs.mapM (fun f => do pure (f.offset, ← sizeOf f.type) : Field → Sem (Nat × Nat))).run P W = .ok pl W
  | [], pl, h => by simp [placesS] at h; subst h; rfl
  | f :: fs, pl, h => by
    simp only [placesS] at h
    split at h
    · rename_i n r hn hr
      simp only [Option.some.injEq] at h
      subst h
      rw [List.mapM_cons]
      simp only [Sem.run_bind, r_sizeOf hn, Result.andThen_ok, Sem.run_pure, placesS_run hr]
    · cases h
theorem ok_build {t : TypeId} {ps : Array (Nat × Operand)} (ho : o.op = .build t ps) (h : opEv P e s o = some (v, s')) (he : Eval m e ρ) (r : Rel m s.H W.heap) (hn : m s.nx = none) : Res P m s W (execOp ρ o) v s' := by
  simp only [opEv, ho] at h
  split at h
  · rename_i z l d hz hl hd
    obtain ⟨p1, p2⟩ := pairs_ok he hl
    have hzr := zero_cells m z
    split at h
    · rename_i fs
      split at h
      · rename_i pl hpl
        split at h
        · rename_i cs hcs
          simp only [Option.some.injEq, Prod.mk.injEq] at h
          obtain ⟨rfl, rfl⟩ := h
          obtain ⟨arr, a1, a2⟩ := fill_ok (place' := fun i => pl.toArray[i]?) (lv := ps.toList.map fun (i, x) => (i, ρ x)) hcs (fun i q hq => by simpa using hq) hzr p1 p2
          refine res_read r hn (u := .agg arr) ?_ ?_
          · have : (fs.mapM (fun f => do pure (f.offset, ← sizeOf f.type) : Field → Sem (Nat × Nat))).run P W = .ok pl.toArray W := by
              rw [Array.mapM_eq_mapM_toList, Sem.run_map, placesS_run hpl]; rfl
            simp only [execOp, ho, Instr.build, Sem.run_bind, r_zero hz, Result.andThen_ok, r_underlying hd, this]
            simp only [Array.toList_map] 
            simp only [Array.toArray_toList] at a1
            rw [a1]
            rfl
          · have := RVal.agg a2
            simpa using this
        · cases h
      · cases h
    · rename_i k el
      split at h
      · rename_i n hsz
        split at h
        · rename_i cs hcs
          simp only [Option.some.injEq, Prod.mk.injEq] at h
          obtain ⟨rfl, rfl⟩ := h
          obtain ⟨arr, a1, a2⟩ := fill_ok (place' := fun i => some (i * n, n)) (lv := ps.toList.map fun (i, x) => (i, ρ x)) hcs (fun i q hq => hq) hzr p1 p2
          refine res_read r hn (u := .agg arr) ?_ ?_
          · simp only [execOp, ho, Instr.build, Sem.run_bind, r_zero hz, Result.andThen_ok, r_underlying hd, r_sizeOf hsz]
            simp only [Array.toList_map]
            simp only [Array.toArray_toList] at a1
            rw [a1]
            rfl
          · have := RVal.agg a2
            simpa using this
        · cases h
      · cases h
    · cases h
  · cases h
theorem rep_vals (m : Mp) (z : List Value) : ∀ n, RVals m (rep n (z.map .val)) (List.replicate n z).flatten
  | 0 => by simpa [rep] using RVals.nil
  | n + 1 => by
    have := rep_vals m z n
    unfold rep at this ⊢
    rw [List.replicate_succ, List.replicate_succ, List.flatten_cons, List.flatten_cons]
    exact (RVals.vals m z).append this
theorem flat_get (z : List Value) : ∀ (n i : Nat), i < n * z.length → (List.replicate n z).flatten[i]? = z[i % z.length]?
  | 0, i, h => by simp at h
  | n + 1, i, h => by
    rw [List.replicate_succ, List.flatten_cons]
    have hz : 0 < z.length := by
      rcases Nat.eq_zero_or_pos z.length with e | e
      · rw [e] at h; simp at h
      · exact e
    rcases Nat.lt_or_ge i z.length with hi | hi
    · rw [List.getElem?_append_left hi, Nat.mod_eq_of_lt hi]
    · rw [List.getElem?_append_right hi, flat_get z n (i - z.length) (by rw [Nat.succ_mul] at h; omega)]
      congr 1
      rw [Nat.mod_eq_sub_mod hi]
theorem range_map_rep (z : Array Value) (n : Nat) : (Array.range (n * z.size)).map (fun i => z[i % z.size]!) = ((List.replicate n z.toList).flatten).toArray := by
  apply Array.ext_getElem?
  intro i
  rcases Nat.lt_or_ge i (n * z.size) with h | h
  · have := flat_get z.toList n i (by simpa using h)
    have hz : 0 < z.size := by
      rcases Nat.eq_zero_or_pos z.size with e | e
      · rw [e] at h; simp at h
      · exact e
    have hm : i % z.size < z.size := Nat.mod_lt _ hz
    rw [show ((List.replicate n z.toList).flatten.toArray)[i]? = (List.replicate n z.toList).flatten[i]? from by simp, this]
    simp [h, hm]
  · simp [h]
theorem val_cells_eq (z : Value) : (RV.val z).cells = z.cells.toList.map .val := by
  cases z <;> rfl
theorem ok_buildSlice {t : TypeId} {len : Nat} {ps : Array (Nat × Operand)} (ho : o.op = .buildSlice t len ps) (h : opEv P e s o = some (v, s')) (he : Eval m e ρ) (r : Rel m s.H W.heap) (hn : m s.nx = none) : Res P m s W (execOp ρ o) v s' := by
  simp only [opEv, ho] at h
  split at h
  · rename_i el hel
    split at h
    · rename_i size z l hsz hz hl
      cases hc : (z.cells.size == size && Nat.ble (len * size) most) with
      | false => rw [hc] at h; cases h
      | true =>
        rw [hc] at h
        simp only [cond_true] at h
        simp only [Bool.and_eq_true, beq_iff_eq] at hc
        obtain ⟨c1, c2⟩ := hc
        have c2 := Nat.le_of_ble_eq_true c2
        split at h
        · rename_i cs hcs
          cases h1 : ones cs with
          | false => rw [h1] at h; cases h
          | true =>
            rw [h1] at h
            simp only [cond_true, Option.some.injEq, Prod.mk.injEq] at h
            obtain ⟨rfl, rfl⟩ := h
            obtain ⟨p1, p2⟩ := pairs_ok he hl
            rw [val_cells_eq] at hcs
            obtain ⟨arr, a1, a2⟩ := fill_ok (place' := fun i => some (i * size, size)) (lv := ps.toList.map fun (i, x) => (i, ρ x)) hcs (fun i q hq => hq) (rep_vals m z.cells.toList len) p1 p2
            refine res_new (t := el) r hn a2 (u := .slice (some ⟨W.heap.size, 0, none⟩) len len) ?_ ?_
            · have h24 : ¬ len * size > 2 ^ 24 := by unfold most at c2; omega
              have hrm := range_map_rep z.cells len
              rw [c1] at hrm
              by_cases e0 : len * size = 0
              · rw [e0] at hrm
                have hfl : (List.replicate len z.cells.toList).flatten.toArray = #[] := by rw [← hrm]; simp
                rw [hfl] at a1
                simp only [execOp, ho, Instr.buildSlice, Sem.run_bind, r_underlying hel, Result.andThen_ok, r_sizeOf hsz, if_neg h24, e0, if_true, Sem.run_pure, Nat.not_lt_zero, if_false]
                simp only [Array.toList_map, show ∀ f : Nat → Value, (Array.range 0).map f = #[] from fun f => by simp]
                simp [a1, newRow]
              · simp only [execOp, ho, Instr.buildSlice, Sem.run_bind, r_underlying hel, Result.andThen_ok, r_sizeOf hsz, if_neg h24, if_neg e0, r_zero hz, Sem.run_pure, c1]
                rw [hrm]
                simp only [Array.toList_map]
                simp [a1, newRow]
            · exact .known (off := 0) (upd_at _ _ _) (Nat.le_refl _)
        · cases h
    · cases h
  · cases h
theorem cells_of {s : S} {id : Nat} {cs : List RV} (h : s.cells? id = some cs) : s.H.get id = some (.cells cs) := by
  unfold S.cells? at h
  split at h
  · rename_i c hc; rw [hc]; simp at h; rw [h]
  · cases h
theorem Rel.cells {H : T AObj} {h : Array Obj} {id : Nat} {cs : List RV} {p : Pl} (r : Rel m H h) (hg : H.get id = some (.cells cs)) (hp : m id = some p) : CellsAt m h p cs := by
  obtain ⟨q, hq, hc⟩ := r.obj id _ hg
  have e1 : q = p := Option.some.inj (hq.symm.trans hp)
  subst e1
  exact hc
theorem ok_load {t : TypeId} {a : Operand} (ho : o.op = .load t a) (h : opEv P e s o = some (v, s')) (he : Eval m e ρ) (r : Rel m s.H W.heap) (hn : m s.nx = none) : Res P m s W (execOp ρ o) v s' := by
  simp only [opEv, ho] at h
  split at h
  · rename_i id off hx
    split at h
    · rename_i cs hcs
      split at h
      · rename_i w hw
        simp only [Option.some.injEq, Prod.mk.injEq] at h
        obtain ⟨rfl, rfl⟩ := h
        obtain ⟨p, hp, hu⟩ := (he a _ hx).ptr_inv
        obtain ⟨u, hu1, hu2⟩ := r_part hw (r.cells (cells_of hcs) hp)
        refine res_read r hn (u := u) ?_ hu2
        simp [execOp, ho, Instr.loadAt, hu, Instr.sureAddr, hu1]
      · cases h
    · cases h
  · cases h
theorem ok_store {t : TypeId} {a x : Operand} (ho : o.op = .store t a x) (h : opEv P e s o = some (v, s')) (he : Eval m e ρ) (r : Rel m s.H W.heap) (hn : m s.nx = none) : Res P m s W (execOp ρ o) v s' := by
  simp only [opEv, ho] at h
  split at h
  · rename_i id off w n ha hx hs
    split at h
    · rename_i cs hcs
      cases hc : (w.cells.length == n && Nat.ble (off + n) cs.length && ones w.cells) with
      | false => rw [hc] at h; cases h
      | true =>
        rw [hc] at h
        simp only [cond_true, Option.some.injEq, Prod.mk.injEq] at h
        obtain ⟨rfl, rfl⟩ := h
        simp only [Bool.and_eq_true, beq_iff_eq] at hc
        obtain ⟨⟨c1, c2⟩, c3⟩ := hc
        have c2 := Nat.le_of_ble_eq_true c2
        obtain ⟨p, hp, hu⟩ := (he a _ ha).ptr_inv
        have hxc := (he x _ hx).cells
        obtain ⟨W', k1, k2, k3⟩ := r_store (P := P) (off := off) r (cells_of hcs) hp hxc c3 (by omega)
        refine ⟨m, W', k2, k3, fun _ _ => rfl, .inl ⟨rfl, hn⟩, .inr ⟨?_, rfl⟩⟩
        have hl : (ρ x).cells.size = n := by
          have := hxc.length
          simp at this
          omega
        simp [execOp, ho, Instr.storeAt, hu, Instr.sureAddr, storeVar, r_sizeOf hs, hl, k1]
    · cases h
  · cases h
theorem ok_nilCheck {x : Operand} (ho : o.op = .nilCheck x) (h : opEv P e s o = some (v, s')) (he : Eval m e ρ) (r : Rel m s.H W.heap) (hn : m s.nx = none) : Res P m s W (execOp ρ o) v s' := by
  simp only [opEv, ho] at h
  split at h
  · rename_i id off hx
    simp only [Option.some.injEq, Prod.mk.injEq] at h
    obtain ⟨rfl, rfl⟩ := h
    obtain ⟨p, hp, hu⟩ := (he x _ hx).ptr_inv
    refine res_read r hn (u := ρ x) ?_ (he x _ hx)
    simp [execOp, ho, hu]
  · rename_i f a b hx
    simp only [Option.some.injEq, Prod.mk.injEq] at h
    obtain ⟨rfl, rfl⟩ := h
    obtain ⟨vs, us, h1, h2, hu⟩ := (he x _ hx).fn_inv
    refine res_read r hn (u := ρ x) ?_ (he x _ hx)
    simp [execOp, ho, hu]
  · rename_i l hx
    simp only [Option.some.injEq, Prod.mk.injEq] at h
    obtain ⟨rfl, rfl⟩ := h
    obtain ⟨p, hp, hu⟩ := (he x _ hx).yield_inv
    refine res_read r hn (u := ρ x) ?_ (he x _ hx)
    simp [execOp, ho, hu]
  · cases h
theorem ok_unOp {op : UnOp} {t : TypeId} {x : Operand} (ho : o.op = .unOp op t x) (h : opEv P e s o = some (v, s')) (he : Eval m e ρ) (r : Rel m s.H W.heap) (hn : m s.nx = none) : Res P m s W (execOp ρ o) v s' := by
  simp only [opEv, ho] at h
  split at h
  · rename_i a hx
    split at h
    · rename_i u hu
      simp only [Option.some.injEq, Prod.mk.injEq] at h
      obtain ⟨rfl, rfl⟩ := h
      have hv := (he x _ hx).val_inv
      refine res_read r hn (u := u) ?_ (.val u)
      simp [execOp, ho, hv, calm_run hu]
    · cases h
  · cases h
theorem nil_ok {x : RV} {u : Value} {k : Nat} {b : Bool} (h : nilEv x = some (k, b)) (hr : RVal m x u) :
    (k = 0 ∧ ((b = true ∧ u = .pointer none) ∨ (b = false ∧ ∃ a, u = .pointer (some a)))) ∨ (k = 1 ∧ ((b = true ∧ ∃ l c, u = .slice none l c) ∨ (b = false ∧ ∃ a l c, u = .slice (some a) l c))) ∨ (k = 2 ∧ ((b = true ∧ u = .nilFunc) ∨ (b = false ∧ ∃ f a c, u = .func f a c))) := by
  unfold nilEv at h
  split at h <;> first | (simp only [Option.some.injEq, Prod.mk.injEq] at h) | (cases h; done)
  · obtain ⟨rfl, rfl⟩ := h; exact .inl ⟨rfl, .inl ⟨rfl, hr.val_inv⟩⟩
  · obtain ⟨rfl, rfl⟩ := h; obtain ⟨p, _, hu⟩ := hr.ptr_inv; exact .inl ⟨rfl, .inr ⟨rfl, _, hu⟩⟩
  · obtain ⟨rfl, rfl⟩ := h; exact .inr (.inl ⟨rfl, .inl ⟨rfl, _, _, hr.val_inv⟩⟩)
  · obtain ⟨rfl, rfl⟩ := h; obtain ⟨p, c, _, _, hu⟩ := hr.slice_inv; exact .inr (.inl ⟨rfl, .inr ⟨rfl, _, _, _, hu⟩⟩)
  · obtain ⟨rfl, rfl⟩ := h; obtain ⟨a, c, hu⟩ := hr.empty_inv; exact .inr (.inl ⟨rfl, .inr ⟨rfl, _, _, _, hu⟩⟩)
  · obtain ⟨rfl, rfl⟩ := h; exact .inr (.inr ⟨rfl, .inl ⟨rfl, hr.val_inv⟩⟩)
  · obtain ⟨rfl, rfl⟩ := h; obtain ⟨vs, us, _, _, hu⟩ := hr.fn_inv; exact .inr (.inr ⟨rfl, .inr ⟨rfl, _, _, _, hu⟩⟩)
  · obtain ⟨rfl, rfl⟩ := h; obtain ⟨p, _, hu⟩ := hr.yield_inv; exact .inr (.inr ⟨rfl, .inr ⟨rfl, _, _, _, hu⟩⟩)
end
section
variable {P : Program} {m : Mp} {e : T RV} {ρ : Operand → Value} {s s' : S} {W : World} {o : Oper} {v : RV}
theorem equal_nil {t : TypeId} {d : TypeDesc} {a b : Value} {k : Nat} (hd : P.underlying t = some d) (hk : kindN d = some k) {x y : Bool}
    (ha : (k = 0 ∧ ((x = true ∧ a = .pointer none) ∨ (x = false ∧ ∃ q, a = .pointer (some q)))) ∨ (k = 1 ∧ ((x = true ∧ ∃ l c, a = .slice none l c) ∨ (x = false ∧ ∃ q l c, a = .slice (some q) l c))) ∨ (k = 2 ∧ ((x = true ∧ a = .nilFunc) ∨ (x = false ∧ ∃ f q c, a = .func f q c))))
    (hb : (k = 0 ∧ ((y = true ∧ b = .pointer none) ∨ (y = false ∧ ∃ q, b = .pointer (some q)))) ∨ (k = 1 ∧ ((y = true ∧ ∃ l c, b = .slice none l c) ∨ (y = false ∧ ∃ q l c, b = .slice (some q) l c))) ∨ (k = 2 ∧ ((y = true ∧ b = .nilFunc) ∨ (y = false ∧ ∃ f q c, b = .func f q c))))
    (hxy : (x || y) = true) (W : World) : (Op.equal t a b).run P W = .ok (x && y) W ∧ ∀ op ox oy, (eqGuard op t ox oy a b).run P W = .ok () W := by
  unfold Op.equal Op.maxDepth
  rw [show (10000 : Nat) = 9999 + 1 from rfl, Op.equalIn]
  rcases ha with ⟨rfl, ha⟩ | ⟨rfl, ha⟩ | ⟨rfl, ha⟩ <;> rcases hb with ⟨h0, hb⟩ | ⟨h0, hb⟩ | ⟨h0, hb⟩ <;> (first | (cases h0; done) | skip)
  · cases d <;> simp [kindN] at hk
    rcases ha with ⟨rfl, rfl⟩ | ⟨rfl, q, rfl⟩ <;> rcases hb with ⟨rfl, rfl⟩ | ⟨rfl, q', rfl⟩ <;> first | (cases hxy; done) | (refine ⟨by simp [r_underlying hd], fun op ox oy => ?_⟩; unfold eqGuard; cases op <;> rfl)
  · cases d <;> simp [kindN] at hk
    rcases ha with ⟨rfl, l, c, rfl⟩ | ⟨rfl, q, l, c, rfl⟩ <;> rcases hb with ⟨rfl, l', c', rfl⟩ | ⟨rfl, q', l', c', rfl⟩ <;> first | (cases hxy; done) | (refine ⟨by simp [r_underlying hd], fun op ox oy => ?_⟩; unfold eqGuard; cases op <;> rfl)
  · cases d <;> simp [kindN] at hk
    rcases ha with ⟨rfl, rfl⟩ | ⟨rfl, f, q, c, rfl⟩ <;> rcases hb with ⟨rfl, rfl⟩ | ⟨rfl, f', q', c', rfl⟩ <;> first | (cases hxy; done) | (refine ⟨by simp [r_underlying hd], fun op ox oy => ?_⟩; unfold eqGuard; cases op <;> rfl)
theorem binOp_cmp (op : BinOp) (h : op = .eql ∨ op = .neq) {t : TypeId} {a b : Value} {k : Nat} {x : Bool}
    (ha : (k = 0 ∧ ((x = true ∧ a = .pointer none) ∨ (x = false ∧ ∃ q, a = .pointer (some q)))) ∨ (k = 1 ∧ ((x = true ∧ ∃ l c, a = .slice none l c) ∨ (x = false ∧ ∃ q l c, a = .slice (some q) l c))) ∨ (k = 2 ∧ ((x = true ∧ a = .nilFunc) ∨ (x = false ∧ ∃ f q c, a = .func f q c)))) :
    binOp op t a b = (if op = .eql then do pure (.bool (← Op.equal t a b)) else do pure (.bool (!(← Op.equal t a b)))) := by
  rcases h with rfl | rfl <;> rcases ha with ⟨rfl, ⟨rfl, rfl⟩ | ⟨rfl, q, rfl⟩⟩ | ⟨rfl, ⟨rfl, l, c, rfl⟩ | ⟨rfl, q, l, c, rfl⟩⟩ | ⟨rfl, ⟨rfl, rfl⟩ | ⟨rfl, f, q, c, rfl⟩⟩ <;> rfl
theorem bin_ok {op : BinOp} {t : TypeId} {ox oy : Operand} {x y : RV} {a b : Value} (h : binEv P op t ox oy x y = some v) (hx : RVal m x a) (hy : RVal m y b) (W : World) :
    ∃ u, (do eqGuard op t ox oy a b; binOp op t a b : Sem Value).run P W = .ok u W ∧ RVal m v u := by
  unfold binEv at h
  split at h
  · rename_i a' b' ga gb
    have ea := hx.ground ga
    have eb := hy.ground gb
    subst ea eb
    split at h
    · rename_i u hu
      simp only [Option.some.injEq] at h
      subst h
      exact ⟨u, calm_run hu W, .val u⟩
    · cases h
  · split at h
    · rename_i k x' l y' d hkx hky hd
      cases hc : ((x' || y') && k == l && (kindN d == some k)) with
      | false => rw [hc] at h; cases h
      | true =>
        rw [hc] at h
        simp only [cond_true] at h
        simp only [Bool.and_eq_true, beq_iff_eq] at hc
        obtain ⟨⟨c1, rfl⟩, c2⟩ := hc
        have na := nil_ok hkx hx
        have nb := nil_ok hky hy
        obtain ⟨q1, q2⟩ := equal_nil hd c2 na nb c1 W
        split at h
        · simp only [Option.some.injEq] at h
          subst h
          refine ⟨.bool (x' && y'), ?_, .val _⟩
          rw [binOp_cmp .eql (.inl rfl) na]
          simp [q1, q2]
        · simp only [Option.some.injEq] at h
          subst h
          refine ⟨.bool (!(x' && y')), ?_, .val _⟩
          rw [binOp_cmp .neq (.inr rfl) na]
          simp [q1, q2]
        · cases h
    · cases h
theorem ok_binOp {op : BinOp} {t t' : TypeId} {x y : Operand} (ho : o.op = .binOp op t x y t') (h : opEv P e s o = some (v, s')) (he : Eval m e ρ) (r : Rel m s.H W.heap) (hn : m s.nx = none) : Res P m s W (execOp ρ o) v s' := by
  simp only [opEv, ho] at h
  split at h
  · rename_i a b ha hb
    split at h
    · rename_i w hw
      simp only [Option.some.injEq, Prod.mk.injEq] at h
      obtain ⟨rfl, rfl⟩ := h
      obtain ⟨u, h1, h2⟩ := bin_ok hw (he x _ ha) (he y _ hb) W
      refine res_read r hn (u := u) ?_ h2
      simp only [execOp, ho]
      rw [Sem.run_bind, h1]
      rfl
    · cases h
  · cases h
theorem ok_makeFunc {f : FuncId} {first caps : Array Operand} (ho : o.op = .makeFunc (.func f) first caps) (h : opEv P e s o = some (v, s')) (he : Eval m e ρ) (r : Rel m s.H W.heap) (hn : m s.nx = none) : Res P m s W (execOp ρ o) v s' := by
  simp only [opEv, ho] at h
  split at h
  · rename_i a b ha hb
    simp only [Option.some.injEq, Prod.mk.injEq] at h
    obtain ⟨rfl, rfl⟩ := h
    have h1 := he.list ha
    have h2 := he.list hb
    refine res_read r hn (u := .func (.func f) (first.toList.map ρ).toArray (caps.toList.map ρ).toArray) ?_ (.fn h1 h2)
    have e1 : ∀ a : Array Operand, a.map ρ = (a.toList.map ρ).toArray := fun a => by apply Array.ext'; simp
    simp only [execOp, ho, Instr.makeFunc, e1, Sem.run_bind, Sem.run_pure, Result.andThen_ok]
  · cases h
theorem ok_makeMap {t : TypeId} (ho : o.op = .makeMap t none) (h : opEv P e s o = some (v, s')) (he : Eval m e ρ) (r : Rel m s.H W.heap) (hn : m s.nx = none) : Res P m s W (execOp ρ o) v s' := by
  simp only [opEv, ho, Option.some.injEq, Prod.mk.injEq] at h
  obtain ⟨rfl, rfl⟩ := h
  obtain ⟨h1, h2⟩ := r.make (W' := { W with heap := W.heap.push (.map #[] 0) }) (o := .map [] 0) (o0 := 0) (n := 0) hn rfl ⟨#[], by simp, .nil⟩ rfl rfl rfl
  refine ⟨_, _, h1, h2, fun id hid => if_neg hid, .inr rfl, .inl ⟨.map (some W.heap.size), ?_, .map (upd_at _ _ _)⟩⟩
  simp [execOp, ho, Instr.makeMap]
theorem asNat_ok {x : RV} {n : Nat} {u : Value} (h : asNat? x = some n) (hr : RVal m x u) : ∃ k, u = .int k (n : Int) := by
  unfold asNat? at h
  split at h
  · rename_i k q
    simp only [Option.some.injEq] at h
    subst h
    exact ⟨k, hr.val_inv⟩
  · cases h
theorem wrap_small {n : Nat} (h : n ≤ most) : IntKind.i64.wrap (n : Int) = n := by
  unfold IntKind.wrap
  unfold most at h
  simp [IntKind.signed, IntKind.bits]
  omega
theorem ok_makeSlice {t : TypeId} {l c : Operand} (ho : o.op = .makeSlice t l c) (h : opEv P e s o = some (v, s')) (he : Eval m e ρ) (r : Rel m s.H W.heap) (hn : m s.nx = none) : Res P m s W (execOp ρ o) v s' := by
  simp only [opEv, ho] at h
  split at h
  · rename_i el lv cv hel hl hc
    split at h
    · rename_i l' c' size z bytes hl' hc' hsz hz hby
      cases hcd : (Nat.ble l' c' && Nat.ble (c' * bytes) most && Nat.ble c' most && z.cells.size == size && ones (RV.val z).cells) with
      | false => rw [hcd] at h; cases h
      | true =>
        rw [hcd] at h
        simp only [cond_true, Option.some.injEq, Prod.mk.injEq] at h
        obtain ⟨rfl, rfl⟩ := h
        simp only [Bool.and_eq_true, beq_iff_eq] at hcd
        obtain ⟨⟨⟨⟨c1, c2⟩, c3⟩, c4⟩, c5⟩ := hcd
        have c1 := Nat.le_of_ble_eq_true c1
        have c2 := Nat.le_of_ble_eq_true c2
        have c3 := Nat.le_of_ble_eq_true c3
        obtain ⟨kl, el1⟩ := asNat_ok hl' (he l _ hl)
        obtain ⟨kc, ec1⟩ := asNat_ok hc' (he c _ hc)
        obtain ⟨i, hi, hib⟩ := r_bytes hby W
        have hrm := range_map_rep z.cells c'
        rw [c4] at hrm
        have hw1 := wrap_small c3
        have hw2 := wrap_small (n := l') (by omega)
        have hrep := rep_vals m z.cells.toList c'
        rw [val_cells_eq]
        refine res_new (t := el) r hn hrep (u := .slice (some ⟨W.heap.size, 0, none⟩) l' c') ?_ (.known (off := 0) (upd_at _ _ _) c1)
        have hbig : ¬ ((bytes : Int) * (c' : Int) > 2 ^ 48) := by
          have : (bytes : Int) * (c' : Int) = ((c' * bytes : Nat) : Int) := by push_cast; rw [Int.mul_comm]
          rw [this]
          unfold most at c2
          omega
        have hcond : (((decide ((c' : Int) < 0) || decide ((bytes : Int) * (c' : Int) > 2 ^ 48)) || decide ((l' : Int) < 0)) || decide ((l' : Int) > (c' : Int))) = false := by
          simp only [Bool.or_eq_false_iff, decide_eq_false_iff_not]
          exact ⟨⟨⟨by omega, hbig⟩, by omega⟩, by omega⟩
        simp only [execOp, ho, Instr.makeSlice, Sem.run_bind, r_underlying hel, Result.andThen_ok, el1, ec1, asInt, asIntOf, Sem.run_pure, hi, hib, hw1, hw2, hcond, Bool.false_eq_true, if_false, run_askRoom, Int.toNat_natCast, r_sizeOf hsz]
        by_cases e0 : c' * size = 0
        · rw [e0] at hrm
          have hfl : (List.replicate c' z.cells.toList).flatten.toArray = #[] := by rw [← hrm]; simp
          rw [hfl]
          simp only [e0, if_true, Sem.run_pure, Result.andThen_ok, newRow, Sem.run_bind, run_newObj, show ∀ f : Nat → Value, (Array.range 0).map f = #[] from fun f => by simp]
        · simp only [if_neg e0, Sem.run_bind, r_zero hz, Result.andThen_ok, Sem.run_pure, c4]
          rw [hrm]
          simp [newRow]
    · cases h
  · cases h
theorem fieldOf_ok {t : TypeId} {i : Nat} {f : Field} (h : fieldOf P t i = some f) : ∃ fs, P.underlying t = some (.struct fs) ∧ fs[i]? = some f := by
  unfold fieldOf at h
  split at h
  · rename_i fs hfs; exact ⟨fs, hfs, h⟩
  · cases h
theorem ok_fieldAddr {t : TypeId} {x : Operand} {i : Nat} (ho : o.op = .fieldAddr t x i) (h : opEv P e s o = some (v, s')) (he : Eval m e ρ) (r : Rel m s.H W.heap) (hn : m s.nx = none) : Res P m s W (execOp ρ o) v s' := by
  simp only [opEv, ho] at h
  split at h
  · rename_i id off f hx hf
    split at h
    · rename_i k hsz
      simp only [Option.some.injEq, Prod.mk.injEq] at h
      obtain ⟨rfl, rfl⟩ := h
      obtain ⟨fs, hfs, hi⟩ := fieldOf_ok hf
      obtain ⟨p, hp, hu⟩ := (he x _ hx).ptr_inv
      refine res_read r hn (u := .pointer (some ⟨p.b, p.o + (off + f.offset), none⟩)) ?_ (.ptr hp)
      simp [execOp, ho, Instr.fieldAt, r_underlying hfs, hi, hu, Instr.sureAddr, fieldPlace, r_sizeOf hsz, addrN, Nat.add_assoc]
    · cases h
  · cases h
theorem ok_field {t : TypeId} {x : Operand} {i : Nat} (ho : o.op = .field t x i) (h : opEv P e s o = some (v, s')) (he : Eval m e ρ) (r : Rel m s.H W.heap) (hn : m s.nx = none) : Res P m s W (execOp ρ o) v s' := by
  simp only [opEv, ho] at h
  split at h
  · rename_i cs f hx hf
    split at h
    · rename_i w hw
      simp only [Option.some.injEq, Prod.mk.injEq] at h
      obtain ⟨rfl, rfl⟩ := h
      obtain ⟨fs, hfs, hi⟩ := fieldOf_ok hf
      obtain ⟨vs, hvs, hu⟩ := (he x _ hx).agg_inv
      obtain ⟨u, hu1, hu2⟩ := r_partV (W := W) hw hvs
      refine res_read r hn (u := u) ?_ hu2
      simp [execOp, ho, Instr.field, r_underlying hfs, hi, hu, asAgg, hu1]
    · cases h
  · rename_i cs f hx hf
    split at h
    · rename_i w hw
      simp only [Option.some.injEq, Prod.mk.injEq] at h
      obtain ⟨rfl, rfl⟩ := h
      obtain ⟨fs, hfs, hi⟩ := fieldOf_ok hf
      have hu := (he x _ hx).val_inv
      obtain ⟨u, hu1, hu2⟩ := r_partV (W := W) hw (RVals.vals m cs.toList)
      simp only [Array.toArray_toList] at hu1
      refine res_read r hn (u := u) ?_ hu2
      simp [execOp, ho, Instr.field, r_underlying hfs, hi, hu, asAgg, hu1]
    · cases h
  · cases h
theorem ok_indexAddr {t : TypeId} {x i : Operand} (ho : o.op = .indexAddr t x i) (h : opEv P e s o = some (v, s')) (he : Eval m e ρ) (r : Rel m s.H W.heap) (hn : m s.nx = none) : Res P m s W (execOp ρ o) v s' := by
  simp only [opEv, ho] at h
  split at h
  · rename_i d xv iv hd hx hi
    split at h
    · rename_i n el id off j hj
      split at h
      · rename_i size hsz
        cases hc : Nat.blt j n with
        | false => rw [hc] at h; cases h
        | true =>
          rw [hc] at h
          simp only [cond_true, Option.some.injEq, Prod.mk.injEq] at h
          obtain ⟨rfl, rfl⟩ := h
          have hlt : j < n := Nat.le_of_ble_eq_true hc
          obtain ⟨p, hp, hu⟩ := (he x _ hx).ptr_inv
          obtain ⟨k, hk⟩ := asNat_ok hj (he i _ hi)
          refine res_read r hn (u := .pointer (some ⟨p.b, p.o + (off + j * size), none⟩)) ?_ (.ptr hp)
          simp [execOp, ho, Instr.indexAt, hu, hk, asIntOf, r_underlying hd, Instr.sureAddr, hlt, r_sizeOf hsz, addrN, Nat.add_assoc]
      · cases h
    · rename_i el id off len cp j hj
      split at h
      · rename_i size hsz
        cases hc : Nat.blt j len with
        | false => rw [hc] at h; cases h
        | true =>
          rw [hc] at h
          simp only [cond_true, Option.some.injEq, Prod.mk.injEq] at h
          obtain ⟨rfl, rfl⟩ := h
          have hlt : j < len := Nat.le_of_ble_eq_true hc
          obtain ⟨p, c, hp, _, hu⟩ := (he x _ hx).slice_inv
          obtain ⟨k, hk⟩ := asNat_ok hj (he i _ hi)
          refine res_read r hn (u := .pointer (some ⟨p.b, p.o + (off + j * size), none⟩)) ?_ (.ptr hp)
          simp [execOp, ho, Instr.indexAt, hu, hk, asIntOf, r_underlying hd, hlt, r_sizeOf hsz, addrN, Nat.add_assoc]
      · cases h
    · cases h
  · cases h
theorem ok_extract {x : Operand} {i : Nat} (ho : o.op = .extract x i) (h : opEv P e s o = some (v, s')) (he : Eval m e ρ) (r : Rel m s.H W.heap) (hn : m s.nx = none) : Res P m s W (execOp ρ o) v s' := by
  simp only [opEv, ho] at h
  split at h
  · rename_i vs hx
    split at h
    · rename_i w hw
      simp only [Option.some.injEq, Prod.mk.injEq] at h
      obtain ⟨rfl, rfl⟩ := h
      obtain ⟨us, hus, hu⟩ := (he x _ hx).tup_inv
      obtain ⟨u, hu1, hu2⟩ := hus.get hw
      refine res_read r hn (u := u) ?_ hu2
      simp [execOp, ho, Instr.extract, hu, hu1]
    · cases h
  · rename_i vs hx
    split at h
    · rename_i w hw
      simp only [Option.some.injEq, Prod.mk.injEq] at h
      obtain ⟨rfl, rfl⟩ := h
      have hu := (he x _ hx).val_inv
      refine res_read r hn (u := w) ?_ (.val w)
      simp [execOp, ho, Instr.extract, hu, hw]
    · cases h
  · cases h
end
end Go.Proofs.YtmknchdciblfjaaGreat.Ev
