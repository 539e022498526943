/- The machine, and that it tells the truth of the program. No condition. -/
import GoSem.Dispatch
import Derived.Calls
set_option linter.all false
namespace Go.AM

inductive AV where
  | v (x : Value)
  | ptr (b off : Nat)
  | sl (b off len cap : Nat) (ex : Bool)
  | agg (cs : List AV)
  | tup (vs : List AV)
  | fn (f : Nat) (cap : List AV)
  | ifc (t : Nat) (x : AV)
  deriving Inhabited

/-- a map from numbers -/
inductive T (α : Type) where
  | e
  | n (l : T α) (v : Option α) (r : T α)

def T.get {α : Type} : T α → Nat → Option α
  | .e, _ => none
  | .n l v r, k => match k with
    | 0 => v
    | k + 1 => match Nat.mod k 2 with
      | 0 => l.get (Nat.div k 2)
      | _ => r.get (Nat.div k 2)

def T.left {α : Type} : T α → T α | .e => .e | .n l _ _ => l
def T.right {α : Type} : T α → T α | .e => .e | .n _ _ r => r
def T.val {α : Type} : T α → Option α | .e => none | .n _ v _ => v

def T.setF {α : Type} (x : Option α) : Nat → T α → Nat → T α
  | 0, t, _ => t
  | f + 1, t, k => match k with
    | 0 => .n t.left x t.right
    | k + 1 => match Nat.mod k 2 with
      | 0 => .n (T.setF x f t.left (Nat.div k 2)) t.val t.right
      | _ => .n t.left t.val (T.setF x f t.right (Nat.div k 2))

def T.set {α : Type} (t : T α) (k : Nat) (x : Option α) : T α := T.setF x (k + 1) t k

structure Blk where
  cells : List AV
  wr : Bool
  mate : Option Nat
  es : Nat

structure Heap where
  next : Nat
  blks : T Blk

inductive AX where
  | t (n : Nat)
  | c (v : AV)

inductive SK where
  | i | b | s

inductive AOp where
  | mv (x : AX)
  | pick (c a b : AX)
  | box (x : AX)
  | build (z : List AV) (ps : List (Nat × Nat × AX))
  | bslice (es len : Nat) (z : List AV) (ps : List (Nat × Nat × AX))
  | load1 (x : AX)
  | loadN (n : Nat) (x : AX)
  | store (n : Nat) (x v : AX)
  | nilc (x : AX)
  | bin (o : BinOp) (x y : AX)
  | beq (neq agg : Bool) (ks : List SK) (x y : AX)
  | eqnil (neq sl : Bool) (x : AX)
  | un (o : UnOp) (x : AX)
  | convi (k : IntKind) (x : AX)
  | convss (x : AX)
  | convsb (x : AX)
  | convbs (x : AX)
  | mkslice (es bytes : Nat) (z : List AV) (l c : AX)
  | slice (es : Nat) (x : AX) (lo hi : Option AX)
  | sstr (x : AX) (lo hi : Option AX)
  | faddr (off : Nat) (x : AX)
  | field1 (off : Nat) (x : AX)
  | fieldN (off n : Nat) (x : AX)
  | iaddr (es : Nat) (x i : AX)
  | aaddr (len es : Nat) (x i : AX)
  | sidx (x i : AX)
  | ext (x : AX) (i : Nat)
  | call (f : Nat) (args : List AX)
  | callv (fx : AX) (args : List AX)
  | mkfn (f : Nat) (caps : List AX)
  | app (es bytes : Nat) (x y : AX)
  | len (str : Bool) (x : AX)
  | mn (x y : AX)
  | mx (x y : AX)
  | bad
  | ck (ts : List Nat) (o : AOp)
  | capx (x : AX)
  | convl (x : AX)
  | appz (es bytes : Nat) (z : List AV) (x y : AX)
  | slice3 (es : Nat) (x : AX) (lo : Option AX) (hi mx : AX)
  | aidx (len : Nat) (x i : AX)
  | convis (x : AX)
  | cpy (es : Nat) (x y : AX)

structure AOper where
  dst : Option Nat
  op : AOp
  guard : Option (Nat × Bool)

inductive AC where
  | skip
  | reg (id : Nat) (draw : Bool) (ops : List AOper)
  | seq (a b : AC)
  | cond (c : AX) (a b : AC)
  | block (id : Nat) (c : AC)
  | loop (c : AC)
  | exit (id : Nat)
  | ret

inductive ARes where
  | tmp (t : Nat)
  | cell1 (t : Nat)
  | cellN (t n : Nat)

structure AFunc where
  nparams : Nat
  results : List ARes
  code : AC

def Value.plain1 : Value → Bool
  | .bool _ | .int .. | .float .. | .complex .. | .string _ | .pointer none | .slice none 0 0 | .map none | .chan none | .nilFunc | .nilIface => true
  | .func (.func _) #[] #[] => true
  | _ => false

/-! compile -/
def constOf (v : Value) : Option AV :=
  match v with
  | .agg cs => if cs.all Value.plain1 then some (.agg (cs.toList.map .v)) else none
  | v => if Value.plain1 v then some (.v v) else none

def cX : Operand → Option AX
  | .tmp t => some (.t t)
  | .const v => (constOf v).map .c
  | .func f => some (.c (.fn f []))
  | .global _ => none

def cXs (l : List Operand) : Option (List AX) := l.mapM cX

def cOptX : Option Operand → Option (Option AX)
  | none => some none
  | some x => (cX x).map some

section
variable (P : Program)
def zeroOf (t : TypeId) : Option (List AV) := do
  let i ← P.info? t
  let z ← i.zero
  if z.cells.all Value.plain1 then some (z.cells.toList.map .v) else none
def sizeO (t : TypeId) : Option Nat := (P.info? t).map (·.size)
def aggO (t : TypeId) : Option Bool := (P.underlying t).map fun d => match d with | .struct _ | .array _ _ => true | _ => false

def cParts (place : Nat → Option (Nat × Nat)) : List (Nat × Operand) → Option (List (Nat × Nat × AX))
  | [] => some []
  | (i, x) :: r => do
    let (o, s) ← place i
    let x ← cX x
    let r ← cParts place r
    some ((o, s, x) :: r)

def skOf : TypeDesc → Option SK
  | .int _ => some .i
  | .bool => some .b
  | .string => some .s
  | _ => none

def kindsOf : List Field → Nat → Option (List SK)
  | [], _ => some []
  | f :: fs, n => do
    let d ← P.underlying f.type
    let k ← skOf d
    let r ← kindsOf fs (n + 1)
    if f.offset = n ∧ f.name ≠ "_" then some (k :: r) else none

def okU : TypeDesc → Bool
  | .slice _ | .string => true
  | _ => false

def isI : TypeDesc → Bool
  | .int _ => true
  | _ => false

def cCall (c : Call) (xs : List AX) : Option AOp :=
  match c.callee with
  | .value (.func f) => some (.call f xs)
  | .value x => do some (.callv (← cX x) xs)
  | .builtin .len => match xs with
    | [x] => do
      let t ← c.argTypes[0]?
      match ← P.underlying t with
      | .slice _ => some (.len false x)
      | .string => some (.len true x)
      | _ => none
    | _ => none
  | .builtin .cap => match xs with
    | [x] => do
      let t ← c.argTypes[0]?
      match ← P.underlying t with
      | .slice _ => some (.capx x)
      | _ => none
    | _ => none
  | .builtin .copy => match xs with
    | [x, y] => do
      let t ← c.argTypes[0]?
      match ← P.underlying t with
      | .slice e => do some (.cpy (← sizeO P e) x y)
      | _ => none
    | _ => none
  | .builtin .min => match xs with | [x, y] => some (.mn x y) | _ => none
  | .builtin .max => match xs with | [x, y] => some (.mx x y) | _ => none
  | .builtin .append => match xs with
    | [x, y] => do
      let t ← c.argTypes[0]?
      let u ← c.argTypes[1]?
      let du ← P.underlying u
      let d ← P.underlying t
      match d, okU du, isI du with
      | .slice e, true, _ => do
        let z ← zeroOf P e
        let i ← P.info? e
        if z.length = i.size ∧ 0 < i.size ∧ 0 < i.bytes then some (.app i.size i.bytes x y) else none
      | .slice e, false, true => do
        let z ← zeroOf P e
        let i ← P.info? e
        if z.length = i.size ∧ 0 < i.size ∧ 0 < i.bytes then some (.appz i.size i.bytes z x y) else none
      | _, _, _ => none
    | _ => none
  | _ => none

def cOp (o : Oper) : Option AOp :=
  match o.op with
  | .move x | .assign x => (cX x).map .mv
  | .pick c a b => do some (.pick (← cX c) (← cX a) (← cX b))
  | .alloc t => do
    let z ← zeroOf P t
    match ← aggO P t with
    | true => some (.box (.c (.agg z)))
    | false => match z with | [z] => some (.box (.c z)) | _ => none
  | .box _ x => (cX x).map .box
  | .build t ps => do
    let z ← zeroOf P t
    match ← P.underlying t with
    | .struct fs => do
      let places ← fs.toList.mapM (fun f => (P.info? f.type).map fun i => (f.offset, i.size))
      let ps ← cParts (fun i => places.toArray[i]?) ps.toList
      some (.build z ps)
    | .array _ e => do
      let s ← sizeO P e
      let ps ← cParts (fun i => some (i * s, s)) ps.toList
      some (.build z ps)
    | _ => none
  | .buildSlice t len ps => do
    match ← P.underlying t with
    | .slice e => do
      let s ← sizeO P e
      let z ← zeroOf P e
      let ps ← cParts (fun i => some (i * s, s)) ps.toList
      if z.length = s ∧ 0 < s ∧ len * s ≤ 2 ^ 24 then some (.bslice s len (List.replicate len z).flatten ps) else none
    | _ => none
  | .load t a => do
    match ← aggO P t with
    | true => some (.loadN (← sizeO P t) (← cX a))
    | false => some (.load1 (← cX a))
  | .store t a x => do some (.store (← sizeO P t) (← cX a) (← cX x))
  | .nilCheck x => (cX x).map .nilc
  | .binOp op t x y _ => do
    match ← P.underlying t with
    | .int _ | .string => some (.bin op (← cX x) (← cX y))
    | .bool => match op with
      | .eql => some (.beq false false [.b] (← cX x) (← cX y))
      | .neq => some (.beq true false [.b] (← cX x) (← cX y))
      | _ => none
    | .struct fs => do
      let ks ← kindsOf P fs.toList 0
      if P.stoodInHeld t || P.eqGuardType P.depth t then none else
      match op with
      | .eql => some (.beq false true ks (← cX x) (← cX y))
      | .neq => some (.beq true true ks (← cX x) (← cX y))
      | _ => none
    | .slice _ => match op, y with
      | .eql, .const (.slice none 0 0) => some (.eqnil false true (← cX x))
      | .neq, .const (.slice none 0 0) => some (.eqnil true true (← cX x))
      | _, _ => none
    | .pointer _ => match op, y with
      | .eql, .const (.pointer none) => some (.eqnil false false (← cX x))
      | .neq, .const (.pointer none) => some (.eqnil true false (← cX x))
      | _, _ => none
    | _ => none
  | .unOp op _ x => do some (.un op (← cX x))
  | .convert s t' x => do
    match ← P.underlying s, ← P.underlying t' with
    | .int _, .int k => some (.convi k (← cX x))
    | .string, .slice e => do
      match ← P.underlying e with
      | .int .u8 => some (.convsb (← cX x))
      | _ => none
    | .slice e, .string => do
      match ← P.underlying e with
      | .int .u8 => some (.convbs (← cX x))
      | _ => none
    | .string, .string => some (.convss (← cX x))
    | .int _, .string => some (.convis (← cX x))
    | .slice _, .slice e => do
      match ← P.underlying e, s == t' with
      | .int .u8, true => some (.convl (← cX x))
      | _, _ => none
    | _, _ => none
  | .makeSlice t l c => do
    match ← P.underlying t with
    | .slice e => do some (.mkslice (← sizeO P e) ((← P.info? e).bytes) (← zeroOf P e) (← cX l) (← cX c))
    | _ => none
  | .slice t x lo hi mx => do
    match ← P.underlying t, mx with
    | .slice e, none => some (.slice (← sizeO P e) (← cX x) (← cOptX lo) (← cOptX hi))
    | .string, none => some (.sstr (← cX x) (← cOptX lo) (← cOptX hi))
    | .slice e, some m => match hi with
      | some h => do some (.slice3 (← sizeO P e) (← cX x) (← cOptX lo) (← cX h) (← cX m))
      | none => none
    | _, _ => none
  | .fieldAddr t x i => do
    match ← P.underlying t with
    | .struct fs => do
      let f ← fs[i]?
      let s ← sizeO P f.type
      let x ← cX x
      if 0 < s then some (.faddr f.offset x) else none
    | _ => none
  | .field t x i => do
    match ← P.underlying t with
    | .struct fs => do
      let f ← fs[i]?
      match ← aggO P f.type with
      | true => some (.fieldN f.offset (← sizeO P f.type) (← cX x))
      | false => some (.field1 f.offset (← cX x))
    | _ => none
  | .indexAddr t x i => do
    match ← P.underlying t with
    | .slice e => do some (.iaddr (← sizeO P e) (← cX x) (← cX i))
    | .array n e => do some (.aaddr n (← sizeO P e) (← cX x) (← cX i))
    | _ => none
  | .index t x i => do
    match ← P.underlying t with
    | .string => some (.sidx (← cX x) (← cX i))
    | .array n e => do
      match ← aggO P e, ← sizeO P e with
      | false, 1 => some (.aidx n (← cX x) (← cX i))
      | _, _ => none
    | _ => none
  | .extract x i => do some (.ext (← cX x) i)
  | .call c => do
    let xs ← cXs c.args.toList
    cCall P c xs
  | .makeFunc (.func f) first caps => do
    let l ← cXs caps.toList
    if first.isEmpty then some (.mkfn f l) else none
  | _ => none

def cOper (N : Nat) (ops : Array Oper) (o : Oper) : Option AOper := do
  let op := (cOp P o).getD .bad
  let g ← match o.guard with
    | none => some none
    | some (j, w) => do
      let d ← (ops[j]?).bind (·.dst)
      some (some (d, w))
  if (o.dst.all fun d => decide (d < N)) = true then some ⟨o.dst, op, g⟩ else none

def maskOf (B : List Nat) (o : Oper) : Nat := o.after.toList.foldl (fun s e => if Region.binds .any e then s ||| (2 ^ e.on ||| B.getD e.on 0) else s) 0

/-- the masks are what the edges say; edges go back -/
def masksOk (ops : List Oper) (B : List Nat) : Bool := ops.length == B.length && (ops.zip B).zipIdx.all fun p => maskOf B p.1.1 == p.1.2 && p.1.1.after.toList.all fun e => !Region.binds .any e || decide (e.on < p.2)

def AX.tmps : AX → List Nat
  | .t n => [n]
  | .c _ => []
def optTmps : Option AX → List Nat
  | some x => x.tmps
  | none => []
def AOp.tmps : AOp → List Nat
  | .mv x | .box x | .load1 x | .loadN _ x | .nilc x | .eqnil _ _ x | .un _ x | .convi _ x | .convss x | .convsb x | .convbs x | .faddr _ x | .field1 _ x | .fieldN _ _ x | .ext x _ | .len _ x | .capx x | .convl x | .convis x => x.tmps
  | .pick c a b => c.tmps ++ a.tmps ++ b.tmps
  | .build _ ps | .bslice _ _ _ ps => ps.flatMap fun p => p.2.2.tmps
  | .store _ x y | .bin _ x y | .beq _ _ _ x y | .mkslice _ _ _ x y | .iaddr _ x y | .aaddr _ _ x y | .sidx x y | .app _ _ x y | .mn x y | .mx x y | .appz _ _ _ x y | .aidx _ x y | .cpy _ x y => x.tmps ++ y.tmps
  | .slice _ x lo hi | .sstr x lo hi => x.tmps ++ optTmps lo ++ optTmps hi
  | .slice3 _ x lo hi m3 => x.tmps ++ optTmps lo ++ hi.tmps ++ m3.tmps
  | .call _ xs | .mkfn _ xs => xs.flatMap AX.tmps
  | .callv x xs => x.tmps ++ xs.flatMap AX.tmps
  | .bad => []
  | .ck ts o => ts ++ o.tmps

def isPure : AOp → Bool
  | .mv .. | .pick .. | .build .. | .nilc .. | .bin .. | .beq .. | .eqnil .. | .un .. | .convi .. | .convss .. | .sstr .. | .faddr .. | .field1 .. | .fieldN .. | .iaddr .. | .aaddr .. | .sidx .. | .ext .. | .mkfn .. | .len .. | .mn .. | .mx .. | .bad | .capx .. | .aidx .. | .convis .. => true
  | _ => false
def isReader : AOp → Bool
  | .load1 .. | .loadN .. | .convbs .. | .slice .. | .slice3 .. => true
  | _ => false
def isLoud (ao : AOp) : Bool := !isPure ao && !isReader ao

/-- may this region's operations come up in any order that the edges allow? -/
def drawOk (ops : List AOper) (B : List Nat) : Bool :=
  let ix := ops.zipIdx
  ix.all fun p =>
    -- temporaries: written once; what is looked at is written ahead of it, or not at all
    (match p.1.dst with | some d => ix.all fun q => q.2 == p.2 || q.1.dst != some d | none => true) &&
    ((p.1.op.tmps ++ (match p.1.guard with | some g => [g.1] | none => [])).all fun t => ix.all fun q => q.1.dst != some t || (B.getD p.2 0).testBit q.2) &&
    -- what is loud, and what reads, is in order
    (isPure p.1.op || ix.all fun q => isPure q.1.op || (isReader p.1.op && isReader q.1.op) || decide (p.2 ≤ q.2) || (B.getD p.2 0).testBit q.2)

/-! a region whose order is drawn, where what reads or makes may come up beside what acts -/
def isAlloc : AOp → Bool
  | .box .. | .bslice .. | .mkslice .. | .convsb .. => true
  | _ => false
def isActor (ao : AOp) : Bool := isLoud ao && !isAlloc ao
/-- what a reader reads through -/
def rdT : AOp → List Nat
  | .load1 x | .loadN _ x | .convbs x => x.tmps
  | .slice _ x _ _ => x.tmps
  | .slice3 _ x _ _ _ => x.tmps
  | _ => []
def isCk : AOp → Bool
  | .ck .. => true
  | _ => false
def preds (B : List Nat) (i j : Nat) : Bool := (B.getD i 0).testBit j
/-- an order: readers ahead of what they need not follow, what is made behind -/
def canonIns (l : Array AOper) (B : List Nat) (out : List Nat) (i : Nat) : List Nat :=
  match l[i]? with
  | none => out
  | some o =>
    if isReader o.op || isAlloc o.op then
      let p := out.findIdx fun k => match l[k]? with | some q => isActor q.op && !preds B i k | none => false
      if p < out.length then
        let gi := o.guard
        let pre := out.take p
        -- ahead of the whole side way
        let back := (pre.reverse.takeWhile fun k => match l[k]?, (out[p]?).bind (l[·]?) with | some q, some z => z.guard.isSome && z.guard != gi && q.guard.isSome && q.guard != gi | _, _ => false).length
        let p := match (out[p]?).bind (l[·]?) with | some z => if z.guard.isSome && z.guard != gi then p - back else p | none => p
        let post := out.drop p
        out.take p ++ (post.filter fun j => preds B i j) ++ [i] ++ post.filter fun j => !preds B i j
      else out ++ [i]
    else out ++ [i]
def canonOrd (l : List AOper) (B : List Nat) : List Nat := (List.range l.length).foldl (canonIns l.toArray B) []
/-- what acts is held against the readers that need not follow it -/
def wrapOne (l : List AOper) (B : List Nat) (ord : List Nat) (i a : Nat) : AOper :=
  match l[a]? with
  | some o =>
    if isActor o.op then
      match (ord.take i).flatMap fun j => match l[j]? with | some q => if preds B a j then [] else if isReader q.op then rdT q.op else if isAlloc q.op then q.dst.toList else [] | none => [] with
      | [] => o
      | ts => ⟨o.dst, .ck ts o.op, o.guard⟩
    else o
  | none => ⟨none, .bad, none⟩
def wrapCk (l : List AOper) (B : List Nat) (ord : List Nat) : List AOper := ord.zipIdx.map fun p => wrapOne l B ord p.2 p.1
def canonOk (l : List AOper) (B : List Nat) (ord : List Nat) : Bool :=
  let n := l.length
  ord.length == n && (List.range n).all (fun i => ord.contains i) && ord.all (fun i => decide (i < n)) &&
  (List.range n).all fun i => (List.range n).all fun j =>
    match ord[i]?, ord[j]? with
    | some a, some b => match l[a]?, l[b]? with
      | some p, some q =>
        (i == j || a != b) &&
        -- it is an order
        (!preds B a b || decide (j < i)) &&
        -- temporaries: written once; what is looked at is written ahead of it, or not at all
        (match p.dst, q.dst with | some d, some e => d != e || i == j | _, _ => true) &&
        (match q.dst with | some d => (p.op.tmps ++ (match p.guard with | some g => [g.1] | none => [])).all (fun t => t != d || preds B a b || (preds B b a && !(isReader p.op && (rdT p.op).contains t))) | none => true) &&
        -- what acts is in order
        (!(isActor p.op && isActor q.op && decide (j < i)) || preds B a b) &&
        (!((isReader p.op || isAlloc p.op) && isActor q.op && decide (j < i)) || preds B a b) &&
        (!isReader p.op || !(rdT p.op).isEmpty) && (!isAlloc p.op || p.dst.isSome) && !isCk p.op
      | _, _ => false
    | _, _ => false

def cCode (N : Nat) : Code → Option AC
  | .skip => some .skip
  | .region id ops draw => do
    let l ← ops.toList.mapM (cOper P N ops)
    match draw with
    | false => some (.reg id false l)
    | true =>
      let B := (Region.before ops).toList
      if masksOk ops.toList B && drawOk l B then some (.reg id false l)
      else if masksOk ops.toList B && canonOk l B (canonOrd l B) then some (.reg id false (wrapCk l B (canonOrd l B))) else none
  | .seq a b => do some (.seq (← cCode N a) (← cCode N b))
  | .cond c a b => do some (.cond (← cX c) (← cCode N a) (← cCode N b))
  | .block id c => do some (.block id (← cCode N c))
  | .loop c => do some (.loop (← cCode N c))
  | .exit id => some (.exit id)
  | .ret => some .ret
  | _ => none

def cRes : ResultVar → Option ARes
  | .tmp t => some (.tmp t)
  | .cell a t => do
    match ← aggO P t with
    | true => some (.cellN a (← sizeO P t))
    | false => some (.cell1 a)

def cFunc (f : Nat) : Option AFunc := do
  let fn ← P.funcs[f]?
  let c ← fn.body
  let code ← cCode P fn.ntmps c
  let rs ← fn.results.toList.mapM (cRes P)
  some ⟨fn.params.size, rs, code⟩
end

/-! run -/
def evX (fr : T AV) : AX → Option AV
  | .t n => fr.get n
  | .c v => some v

def evXs (fr : T AV) : List AX → Option (List AV)
  | [] => some []
  | x :: r => match evX fr x with
    | some v => match evXs fr r with
      | some vs => some (v :: vs)
      | none => none
    | none => none

def isInt (k : IntKind) (a : Int) : Option (AV) := some (.v (.int k a))

def binI (o : BinOp) (k : IntKind) (a b : Int) : Option Value :=
  match o with
  | .add => some (.int k (k.wrap (a + b)))
  | .sub => some (.int k (k.wrap (a - b)))
  | .mul => some (.int k (k.wrap (a * b)))
  | .quo => if b = 0 then none else some (.int k (k.wrap (a.tdiv b)))
  | .rem => if b = 0 then none else some (.int k (a.tmod b))
  | .and => some (.int k (k.wrap (BitVec.ofInt k.bits a &&& BitVec.ofInt k.bits b).toNat))
  | .or => some (.int k (k.wrap (BitVec.ofInt k.bits a ||| BitVec.ofInt k.bits b).toNat))
  | .xor => some (.int k (k.wrap (BitVec.ofInt k.bits a ^^^ BitVec.ofInt k.bits b).toNat))
  | .andNot => some (.int k (k.wrap (BitVec.ofInt k.bits a &&& ~~~ BitVec.ofInt k.bits b).toNat))
  | .eql => some (.bool (a == b))
  | .neq => some (.bool (a != b))
  | .lss => some (.bool (a < b))
  | .leq => some (.bool (a ≤ b))
  | .gtr => some (.bool (a > b))
  | .geq => some (.bool (a ≥ b))
  | _ => none

def binV (o : BinOp) (x y : Value) : Option Value :=
  match o, x, y with
  | .shl, .int k a, .int _ b => if b < 0 then none else some (.int k (k.wrap (a * 2 ^ (min b.toNat k.bits))))
  | .shr, .int k a, .int _ b => if b < 0 then none else some (.int k (a.fdiv (2 ^ (min b.toNat k.bits))))
  | o, .int k a, .int k' b => if k = k' then binI o k a b else none
  | .add, .string a, .string b => if ((a.size + b.size : Nat) : Int) > IntKind.i64.max then none else some (.string (a ++ b))
  | .eql, .string a, .string b => some (.bool (a.toList == b.toList))
  | .neq, .string a, .string b => some (.bool !(a.toList == b.toList))
  | _, _, _ => none

def scalarEq : SK → Value → Value → Option Bool
  | .i, .int k a, .int k' b => if k = k' then some (a == b) else none
  | .b, .bool a, .bool b => some (a == b)
  | .s, .string a, .string b => some (a == b)
  | _, _, _ => none

def cellsEq : List SK → List AV → List AV → Option Bool
  | [], [], [] => some true
  | k :: ks, (.v a) :: r, (.v b) :: s => match scalarEq k a b with
    | some true => cellsEq ks r s
    | some false => some false
    | none => none
  | _, _, _ => none

def avEq (agg : Bool) (ks : List SK) (x y : AV) : Option Bool :=
  match agg, x, y with
  | false, .v a, .v b => scalarEq .b a b
  | true, .agg a, .agg b => cellsEq ks a b
  | _, _, _ => none

def unV (o : UnOp) (x : Value) : Option Value :=
  match o, x with
  | .neg, .int k n => some (.int k (k.wrap (0 - n)))
  | .xor, .int k n => some (.int k (k.wrap (BitVec.ofInt k.bits (if k.signed then -1 else k.max) ^^^ BitVec.ofInt k.bits n).toNat))
  | .not, .bool b => some (.bool !b)
  | _, _ => none

def AV.one : AV → Bool
  | .agg _ | .tup _ => false
  | _ => true

def AV.cs : AV → Option (List AV)
  | .agg cs => some cs
  | .tup _ => none
  | x => some [x]

/-- write a part into cells; sizes must fit -/
def putAt : List AV → Nat → List AV → Option (List AV)
  | cs, 0, [] => some cs
  | _ :: cs, 0, v :: vs => (putAt cs 0 vs).map (v :: ·)
  | c :: cs, o + 1, vs => (putAt cs o vs).map (c :: ·)
  | [], 0, _ :: _ => none
  | [], _ + 1, _ => none

def fillA (fr : T AV) (cs : List AV) : List (Nat × Nat × AX) → Option (List AV)
  | [] => some cs
  | (o, s, x) :: r => match evX fr x with
    | some v => match v.cs with
      | some vs => if vs.length = s then
          match putAt cs o vs with
          | some cs => fillA fr cs r
          | none => none
        else none
      | none => none
    | none => none

def Heap.alloc (H : Heap) (es : Nat) (cs : List AV) : Heap := ⟨H.next + 1, H.blks.set H.next (some ⟨cs, true, none, es⟩)⟩

def Heap.kill (H : Heap) : Option Nat → Heap
  | none => H
  | some m => ⟨H.next, H.blks.set m none⟩

def Heap.write (H : Heap) (b off : Nat) (vs : List AV) : Option Heap :=
  match H.blks.get b with
  | some blk => if blk.wr then
      match putAt blk.cells off vs with
      | some cs => some ⟨H.next, (H.kill blk.mate).blks.set b (some ⟨cs, true, none, blk.es⟩)⟩
      | none => none
    else none
  | none => none

def takeN : Nat → List AV → Option (List AV)
  | 0, _ => some []
  | n + 1, v :: vs => (takeN n vs).map (v :: ·)
  | _ + 1, [] => none

def getN (H : Heap) (b off n : Nat) : Option (List AV) :=
  match H.blks.get b with
  | some blk => takeN n (blk.cells.drop off)
  | none => none

def bytesOf : List AV → Option (List UInt8)
  | [] => some []
  | (AV.v (Value.int IntKind.u8 n)) :: r => (bytesOf r).map ((UInt8.ofNat n.toNat) :: ·)
  | _ => none

def natOf (n : Int) (hi : Nat) : Option Nat := if 0 ≤ n ∧ n ≤ hi then some n.toNat else none

def boundX (fr : T AV) (d hi : Nat) : Option AX → Option Nat
  | none => some d
  | some x => match evX fr x with
    | some (.v (.int _ n)) => natOf n hi
    | _ => none

/-- what an append puts in -/
def newsOf (H : Heap) (es : Nat) : AV → Option (Nat × List AV)
  | .v (.slice none 0 0) => some (0, [])
  | .sl b off len _ _ => (getN H b off (len * es)).map (len, ·)
  | .v (.string s) => if es = 1 then some (s.size, s.data.toList.map fun b => .v (.int .u8 b.toNat)) else none
  | _ => none

def Heap.mate2 (H : Heap) (b : Nat) (blk : Blk) (cs : List AV) : Heap :=
  ⟨H.next + 1, ((H.kill blk.mate).blks.set b (some ⟨blk.cells, blk.wr, some H.next, blk.es⟩)).set H.next (some ⟨cs, true, some b, blk.es⟩)⟩

def appendA (H : Heap) (es bytes : Nat) (s x : AV) : Option (AV × Heap) :=
  match newsOf H es x with
  | none => none
  | some (m, news) =>
    match s with
    | .v (.slice none 0 0) =>
      match m with
      | 0 => some (s, H)
      | _ => if m * bytes ≤ 2 ^ 47 then some (.sl H.next 0 m m false, H.alloc es news) else none
    | .sl b off len cap ex =>
      if len + m ≤ cap then
        match m with
        | 0 => some (.sl b off len cap ex, H)
        | _ => match H.write b (off + len * es) news with
          | some H => some (.sl b off (len + m) cap ex, H)
          | none => none
      else match H.blks.get b with
        | none => none
        | some blk => match takeN (len * es) (blk.cells.drop off) with
          | none => none
          | some old =>
            if blk.es = es ∧ (len + m) * bytes ≤ 2 ^ 47 then
              if ex then some (.sl H.next 0 (len + m) (len + m) false, H.alloc es (old ++ news))
              else if blk.cells.length = off + cap * es ∧ blk.wr then
                if len = cap then some (.sl H.next 0 (len + m) (len + m) false, H.mate2 b blk (old ++ news)) else none
              else none
            else none
    | _ => none

def lenA : AV → Option Nat
  | .v (.slice none 0 0) => some 0
  | .sl _ _ len _ _ => some len
  | .v (.string s) => some s.size
  | _ => none
/-- the first cells -/
def firstA (H : Heap) (es k : Nat) : AV → Option (List AV)
  | .v (.slice none 0 0) => some []
  | .sl b off _ _ _ => getN H b off (k * es)
  | .v (.string s) => if es = 1 then some ((s.data.toList.take k).map fun b => .v (.int .u8 b.toNat)) else none
  | _ => none
def cpyA (H : Heap) (es : Nat) (d s : AV) : Option (AV × Heap) :=
  match lenA s with
  | none => none
  | some m =>
    match d with
    | .v (.slice none 0 0) => some (.v (.int .i64 0), H)
    | .sl b off len _ _ => match Nat.min m len with
      | 0 => some (.v (.int .i64 0), H)
      | k + 1 => match firstA H es (k + 1) s with
        | some news => match H.write b off news with
          | some H => some (.v (.int .i64 (k + 1 : Nat)), H)
          | none => none
        | none => none
    | _ => none

/-- the block that a value leads to -/
def blkOf : AV → Option Nat
  | .ptr b _ => some b
  | .sl b _ _ _ _ => some b
  | _ => none
/-- what these lead to stays as it is -/
def Unch (ts : List Nat) (fr : T AV) (H H' : Heap) : Prop := ∀ t, t ∈ ts → ∃ v, fr.get t = some v ∧ ∀ b, blkOf v = some b → H'.blks.get b = H.blks.get b
open Classical in
noncomputable def evOp (call : Nat → List AV → Heap → Option (AV × Heap)) (o : AOp) (fr : T AV) (H : Heap) : Option (AV × Heap) :=
  match o with
  | .mv x => match evX fr x with | some v => some (v, H) | none => none
  | .pick c a b => match evX fr c with
    | some (.v (.bool true)) => match evX fr a with | some v => some (v, H) | none => none
    | some (.v (.bool false)) => match evX fr b with | some v => some (v, H) | none => none
    | _ => none
  | .box x => match evX fr x with
    | some v => match v.cs with
      | some vs => some (.ptr H.next 0, H.alloc 0 vs)
      | none => none
    | none => none
  | .build z ps => match fillA fr z ps with | some cs => some (.agg cs, H) | none => none
  | .bslice es len z ps => match fillA fr z ps with | some cs => some (.sl H.next 0 len len true, H.alloc es cs) | none => none
  | .load1 x => match evX fr x with
    | some (.ptr b off) => match getN H b off 1 with | some [v] => some (v, H) | _ => none
    | _ => none
  | .loadN n x => match evX fr x with
    | some (.ptr b off) => match getN H b off n with | some vs => some (.agg vs, H) | _ => none
    | _ => none
  | .store n x y => match evX fr x, evX fr y with
    | some (.ptr b off), some v => match v.cs with
      | some vs => if vs.length = n then
          match H.write b off vs with
          | some H => some (.tup [], H)
          | none => none
        else none
      | none => none
    | _, _ => none
  | .nilc x => match evX fr x with
    | some (.ptr b off) => some (.ptr b off, H)
    | some (.fn f c) => some (.fn f c, H)
    | _ => none
  | .bin o x y => match evX fr x, evX fr y with
    | some (.v a), some (.v b) => match binV o a b with | some v => some (.v v, H) | none => none
    | _, _ => none
  | .beq neq agg ks x y => match evX fr x, evX fr y with
    | some a, some b => match avEq agg ks a b with | some r => some (.v (.bool (xor neq r)), H) | none => none
    | _, _ => none
  | .eqnil neq sl x => match sl, evX fr x with
    | false, some (.v (.pointer none)) => some (.v (.bool !neq), H)
    | true, some (.v (.slice none 0 0)) => some (.v (.bool !neq), H)
    | false, some (.ptr _ _) => some (.v (.bool neq), H)
    | true, some (.sl ..) => some (.v (.bool neq), H)
    | _, _ => none
  | .un o x => match evX fr x with
    | some (.v a) => match unV o a with | some v => some (.v v, H) | none => none
    | _ => none
  | .convi k x => match evX fr x with
    | some (.v (.int _ n)) => some (.v (.int k (k.wrap n)), H)
    | _ => none
  | .convss x => match evX fr x with
    | some (.v (.string s)) => some (.v (.string s), H)
    | _ => none
  | .convsb x => match evX fr x with
    | some (.v (.string s)) => some (.sl H.next 0 s.size s.size false, H.alloc 1 (s.data.toList.map fun b => .v (.int .u8 b.toNat)))
    | _ => none
  | .convbs x => match evX fr x with
    | some (.v (.slice none 0 0)) => some (.v (.string .empty), H)
    | some (.sl b off len _ _) => match getN H b off len with
      | some cs => match bytesOf cs with | some l => some (.v (.string ⟨l.toArray⟩), H) | none => none
      | none => none
    | _ => none
  | .mkslice es bytes z l c => match evX fr l, evX fr c with
    | some (.v (.int _ l)), some (.v (.int _ c)) =>
      if 0 ≤ l ∧ l ≤ c ∧ (bytes : Int) * c ≤ 2 ^ 47 ∧ c < 2 ^ 63 ∧ z.length = es ∧ 0 < es then some (.sl H.next 0 l.toNat c.toNat true, H.alloc es (List.replicate c.toNat z).flatten) else none
    | _, _ => none
  | .slice es x lo hi => match evX fr x with
    | some (.v (.slice none 0 0)) => match boundX fr 0 0 hi with
      | some h => match boundX fr 0 h lo with
        | some _ => some (.v (.slice none 0 0), H)
        | none => none
      | none => none
    | some (.sl b off len cap ex) => match boundX fr len cap hi with
      | some h => match boundX fr 0 h lo with
        | some l => match H.blks.get b with
          | some blk => if blk.es = es then some (.sl b (off + l * es) (h - l) (cap - l) ex, H) else none
          | none => none
        | none => none
      | none => none
    | _ => none
  | .sstr x lo hi => match evX fr x with
    | some (.v (.string s)) => match boundX fr s.size s.size hi with
      | some h => match boundX fr 0 h lo with
        | some l => some (.v (.string (s.extract l h)), H)
        | none => none
      | none => none
    | _ => none
  | .faddr off x => match evX fr x with
    | some (.ptr b o) => some (.ptr b (o + off), H)
    | _ => none
  | .field1 off x => match evX fr x with
    | some (.agg cs) => match cs[off]? with | some v => some (v, H) | none => none
    | _ => none
  | .fieldN off n x => match evX fr x with
    | some (.agg cs) => match takeN n (cs.drop off) with | some vs => some (.agg vs, H) | none => none
    | _ => none
  | .iaddr es x i => match evX fr x, evX fr i with
    | some (.sl b off len _ _), some (.v (.int _ n)) => if 0 ≤ n ∧ n < len then some (.ptr b (off + n.toNat * es), H) else none
    | _, _ => none
  | .aaddr len es x i => match evX fr x, evX fr i with
    | some (.ptr b off), some (.v (.int _ n)) => if 0 ≤ n ∧ n < len then some (.ptr b (off + n.toNat * es), H) else none
    | _, _ => none
  | .sidx x i => match evX fr x, evX fr i with
    | some (.v (.string s)), some (.v (.int _ n)) => if 0 ≤ n then match s.data.toList[n.toNat]? with | some b => some (.v (.int .u8 b.toNat), H) | none => none else none
    | _, _ => none
  | .ext x i => match evX fr x with
    | some (.tup vs) => match vs[i]? with | some v => some (v, H) | none => none
    | _ => none
  | .call f xs => match evXs fr xs with
    | some vs => call f vs H
    | none => none
  | .callv x xs => match evX fr x with
    | some (.fn f caps) => match evXs fr xs with
      | some vs => call f (vs ++ caps) H
      | none => none
    | _ => none
  | .mkfn f xs => match evXs fr xs with
    | some vs => some (.fn f vs, H)
    | none => none
  | .app es bytes x y => match evX fr x, evX fr y with
    | some s, some x => appendA H es bytes s x
    | _, _ => none
  | .len str x => match str, evX fr x with
    | false, some (.sl _ _ n _ _) => some (.v (.int .i64 n), H)
    | false, some (.v (.slice none 0 0)) => some (.v (.int .i64 0), H)
    | true, some (.v (.string s)) => some (.v (.int .i64 s.size), H)
    | _, _ => none
  | .mn x y => match evX fr x, evX fr y with
    | some (.v (.int k a)), some (.v (.int _ b)) => some (.v (.int k (if b < a then b else a)), H)
    | _, _ => none
  | .mx x y => match evX fr x, evX fr y with
    | some (.v (.int k a)), some (.v (.int _ b)) => some (.v (.int k (if b > a then b else a)), H)
    | _, _ => none
  | .bad => none
  | .capx x => match evX fr x with
    | some (.v (.slice none 0 0)) => some (.v (.int .i64 0), H)
    | some (.sl _ _ _ cap true) => some (.v (.int .i64 cap), H)
    | _ => none
  | .convl x => match evX fr x with
    | some (.sl b off len cap ex) => match H.blks.get b with
      | some blk => if blk.wr = true ∧ 0 < cap then some (.sl b off len cap ex, H) else none
      | none => none
    | _ => none
  | .appz es bytes z x y => match evX fr x, evX fr y with
    | some (.v (.slice none 0 0)), some (.v (.int .i64 n)) => if 0 < n ∧ n * bytes ≤ 2 ^ 47 then some (.sl H.next 0 n.toNat n.toNat false, H.alloc es (List.replicate n.toNat z).flatten) else none
    | _, _ => none
  | .slice3 es x lo hi m3 => match evX fr x with
    | some (.v (.slice none 0 0)) => match boundX fr 0 0 (some m3) with
      | some m => match boundX fr 0 m (some hi) with
        | some h => match boundX fr 0 h lo with
          | some _ => some (.v (.slice none 0 0), H)
          | none => none
        | none => none
      | none => none
    | some (.sl b off len cap ex) => match boundX fr 0 cap (some m3) with
      | some m => match boundX fr 0 m (some hi) with
        | some h => match boundX fr 0 h lo with
          | some l => match H.blks.get b with
            | some blk => if blk.es = es then some (.sl b (off + l * es) (h - l) (m - l) true, H) else none
            | none => none
          | none => none
        | none => none
      | none => none
    | _ => none
  | .aidx len x i => match evX fr x, evX fr i with
    | some (.agg cs), some (.v (.int _ n)) => if 0 ≤ n ∧ n < len then match cs[n.toNat]? with | some v => some (v, H) | none => none else none
    | _, _ => none
  | .convis x => match evX fr x with
    | some (.v (.int _ n)) => some (.v (.string (Utf8.encode n)), H)
    | _ => none
  | .cpy es x y => match evX fr x, evX fr y with
    | some d, some s => cpyA H es d s
    | _, _ => none
  | .ck ts o => match evOp call o fr H with
    | some (v, H') => if Unch ts fr H H' then some (v, H') else none
    | none => none

def putD (fr : T AV) (d : Option Nat) (v : AV) : T AV :=
  match d with
  | some d => fr.set d (some v)
  | none => fr

noncomputable def evOps (call : Nat → List AV → Heap → Option (AV × Heap)) : List AOper → T AV → Heap → Option (T AV × Heap)
  | [], fr, H => some (fr, H)
  | o :: rest, fr, H =>
    match o.guard with
    | none => match evOp call o.op fr H with
      | some (v, H) => evOps call rest (putD fr o.dst v) H
      | none => none
    | some (g, w) => match fr.get g with
      | some (.v (.bool b)) => if b = w then
          match evOp call o.op fr H with
          | some (v, H) => evOps call rest (putD fr o.dst v) H
          | none => none
        else evOps call rest (putD fr o.dst (.tup [])) H
      | some (.tup _) => evOps call rest (putD fr o.dst (.tup [])) H
      | _ => none

inductive AE where
  | nm
  | ex (id : Nat)
  | rt

def getResult (H : Heap) (fr : T AV) : ARes → Option AV
  | .tmp t => fr.get t
  | .cell1 t => match fr.get t with
    | some (.ptr b off) => match getN H b off 1 with | some [v] => some v | _ => none
    | _ => none
  | .cellN t n => match fr.get t with
    | some (.ptr b off) => (getN H b off n).map .agg
    | _ => none

def getResults (H : Heap) (fr : T AV) : List ARes → Option (List AV)
  | [] => some []
  | r :: rs => match getResult H fr r with
    | some v => match getResults H fr rs with | some vs => some (v :: vs) | none => none
    | none => none

def argFrame : Nat → List AV → T AV → T AV
  | _, [], fr => fr
  | i, v :: vs, fr => argFrame (i + 1) vs (fr.set i (some v))

abbrev AProg := T AFunc

/-- a call, its body run by `ex` -/
noncomputable def callW (A : AProg) (ex : AC → T AV → Heap → Option (AE × T AV × Heap)) (f : Nat) (vs : List AV) (H : Heap) : Option (AV × Heap) :=
  match A.get f with
  | some fn => if vs.length = fn.nparams then match ex fn.code (argFrame 0 vs .e) H with
    | some (.ex _, _, _) => none
    | some (_, fr, H) => match getResults H fr fn.results with
      | some [v] => some (v, H)
      | some vs => some (.tup vs, H)
      | none => none
    | none => none else none
  | none => none

/-- one step of the definition by fuel -/
noncomputable def execB (A : AProg) (ih : AC → T AV → Heap → Option (AE × T AV × Heap)) (c : AC) (fr : T AV) (H : Heap) : Option (AE × T AV × Heap) :=
  match c with
  | .skip => some (.nm, fr, H)
  | .reg _ false ops => match evOps (callW A ih) ops fr H with
    | some (fr, H) => some (.nm, fr, H)
    | none => none
  | .reg _ true _ => none
  | .seq a b => match ih a fr H with
    | some (.nm, fr, H) => ih b fr H
    | r => r
  | .cond x a b => match evX fr x with
    | some (.v (.bool true)) => ih a fr H
    | some (.v (.bool false)) => ih b fr H
    | _ => none
  | .block id c => match ih c fr H with
    | some (.ex i, fr, H) => if i = id then some (.nm, fr, H) else some (.ex i, fr, H)
    | r => r
  | .loop c => match ih c fr H with
    | some (.nm, fr, H) => ih (.loop c) fr H
    | r => r
  | .exit id => some (.ex id, fr, H)
  | .ret => some (.rt, fr, H)

noncomputable def exec (A : AProg) : Nat → AC → T AV → Heap → Option (AE × T AV × Heap)
  | 0 => fun _ _ _ => none
  | n + 1 => execB A (exec A n)

noncomputable def callA (A : AProg) (n : Nat) (f : Nat) (vs : List AV) (H : Heap) : Option (AV × Heap) := callW A (exec A n) f vs H

def H0 : Heap := ⟨0, .e⟩

end Go.AM
