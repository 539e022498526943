/- The machine, and that it tells the truth of the program. No condition. -/
import GoSem.Dispatch
import Derived.Calls
import Derived.Below
import Derived.Laws.AppendOwn
import Derived.WalkKit
import Derived.Laws.MakeOwn
import Derived.Laws.BytesString
import Derived.Great.BuildSlice
set_option linter.all false
namespace Go.AM
inductive AV where
 | v (x : Value)
 | ptr (b off : Nat)
 | sl (b off len cap : Nat) (ex : Bool)
 | agg (cs : List AV)
 | tup (vs : List AV)
 | fn (f : Nat) (cap : List AV)
 | ifc (t : Nat) (x : AV)
 deriving Inhabited
inductive T (α : Type) where
 | e
 | n (l : T α) (v : Option α) (r : T α)
def T.get {α : Type} : T α → Nat → Option α
 | .e, _ => none
 | .n l v r, k => match k with
   | 0 => v
   | k + 1 => match Nat.mod k 2 with
     | 0 => l.get (Nat.div k 2)
     | _ => r.get (Nat.div k 2)
def T.left {α : Type} : T α → T α | .e => .e | .n l _ _ => l
def T.right {α : Type} : T α → T α | .e => .e | .n _ _ r => r
def T.val {α : Type} : T α → Option α | .e => none | .n _ v _ => v
def T.setF {α : Type} (x : Option α) : Nat → T α → Nat → T α
 | 0, t, _ => t
 | f + 1, t, k => match k with
   | 0 => .n t.left x t.right
   | k + 1 => match Nat.mod k 2 with
     | 0 => .n (T.setF x f t.left (Nat.div k 2)) t.val t.right
     | _ => .n t.left t.val (T.setF x f t.right (Nat.div k 2))
def T.set {α : Type} (t : T α) (k : Nat) (x : Option α) : T α := T.setF x (k + 1) t k
structure Blk where
 cells : List AV
 wr : Bool
 mate : Option Nat
 es : Nat
structure Heap where
 next : Nat
 blks : T Blk
def MAPT : Nat := 1000000007
def MVT : Nat := 1000000008
def BNDT : Nat := 1000000009
inductive AX where
 | t (n : Nat)
 | c (v : AV)
inductive SK where
 | i | b | s
inductive AOp where
 | mv (x : AX)
 | pick (c a b : AX)
 | box (x : AX)
 | build (z : List AV) (ps : List (Nat × Nat × AX))
 | bslice (es len : Nat) (z : List AV) (ps : List (Nat × Nat × AX))
 | load1 (x : AX)
 | loadN (n : Nat) (x : AX)
 | store (n : Nat) (x v : AX)
 | nilc (x : AX)
 | bin (o : BinOp) (x y : AX)
 | beq (neq agg : Bool) (ks : List SK) (x y : AX)
 | eqnil (neq sl : Bool) (x : AX)
 | un (o : UnOp) (x : AX)
 | convi (k : IntKind) (x : AX)
 | convss (x : AX)
 | convsb (x : AX)
 | convbs (x : AX)
 | mkslice (es bytes : Nat) (z : List AV) (l c : AX)
 | slice (es : Nat) (x : AX) (lo hi : Option AX)
 | sstr (x : AX) (lo hi : Option AX)
 | faddr (off : Nat) (x : AX)
 | field1 (off : Nat) (x : AX)
 | fieldN (off n : Nat) (x : AX)
 | iaddr (es : Nat) (x i : AX)
 | aaddr (len es : Nat) (x i : AX)
 | sidx (x i : AX)
 | ext (x : AX) (i : Nat)
 | call (f : Nat) (args : List AX)
 | callv (fx : AX) (args : List AX)
 | mkfn (f : Nat) (caps : List AX)
 | mkifc (t : Nat) (x : AX)
 | asrt (t : Nat) (x : AX)
 | invk (tb : List (Nat × Nat)) (x : AX) (args : List AX)
 | app (es bytes : Nat) (x y : AX)
 | len (str : Bool) (x : AX)
 | mn (x y : AX)
 | mx (x y : AX)
 | bad
 | ck (ts : List Nat) (o : AOp)
 | capx (x : AX)
 | convl (x : AX)
 | appz (es bytes : Nat) (z : List AV) (x y : AX)
 | slice3 (es : Nat) (x : AX) (lo : Option AX) (hi mx : AX)
 | aidx (len : Nat) (x i : AX)
 | convis (x : AX)
 | cpy (es : Nat) (x y : AX)
 | mkmap
 | mlook (x k : AX)
 | ment (x k : AX)
 | mst (x s v : AX)
 | mup (x k v : AX)
 | bnd (f : Nat) (x : AX)
 | mkmv (nm : String) (x : AX)
 | nilm (nm : String) (tb : List Nat) (x : AX)
 | eqif (neq : Bool) (x : AX)
 | invk2 (tb : List (Nat × Nat × Option Nat)) (x : AX) (args : List AX)
structure AOper where
 dst : Option Nat
 op : AOp
 guard : Option (Nat × Bool)
inductive AC where
 | skip
 | reg (id : Nat) (draw : Bool) (ops : List AOper)
 | seq (a b : AC)
 | cond (c : AX) (a b : AC)
 | block (id : Nat) (c : AC)
 | loop (c : AC)
 | exit (id : Nat)
 | ret
inductive ARes where
 | tmp (t : Nat)
 | cell1 (t : Nat)
 | cellN (t n : Nat)
structure AFunc where
 nparams : Nat
 results : List ARes
 code : AC
def Value.plain1 : Value → Bool
 | .bool _ | .int .. | .float .. | .complex .. | .string _ | .pointer none | .slice none 0 0 | .map none | .chan none | .nilFunc | .nilIface => true
 | .func (.func _) #[] #[] => true
 | _ => false
/-! compile -/
def constOf (v : Value) : Option AV :=
 match v with
 | .agg cs => if cs.all Value.plain1 then some (.agg (cs.toList.map .v)) else none
 | v => if Value.plain1 v then some (.v v) else none
def cX : Operand → Option AX
 | .tmp t => some (.t t)
 | .const v => (constOf v).map .c
 | .func f => some (.c (.fn f []))
 | .global _ => none
def cXs (l : List Operand) : Option (List AX) := l.mapM cX
def cOptX : Option Operand → Option (Option AX)
 | none => some none
 | some x => (cX x).map some
section
variable (P : Program)
def zeroOf (t : TypeId) : Option (List AV) := do
 let i ← P.info? t
 let z ← i.zero
 if z.cells.all Value.plain1 then some (z.cells.toList.map .v) else none
def sizeO (t : TypeId) : Option Nat := (P.info? t).map (·.size)
def aggO (t : TypeId) : Option Bool := (P.underlying t).map fun d => match d with | .struct _ | .array _ _ => true | _ => false
def cParts (place : Nat → Option (Nat × Nat)) : List (Nat × Operand) → Option (List (Nat × Nat × AX))
 | [] => some []
 | (i, x) :: r => do
   let (o, s) ← place i
   let x ← cX x
   let r ← cParts place r
   some ((o, s, x) :: r)
def skOf : TypeDesc → Option SK
 | .int _ => some .i
 | .bool => some .b
 | .string => some .s
 | _ => none
def kindsOf : List Field → Nat → Option (List SK)
 | [], _ => some []
 | f :: fs, n => do
   let d ← P.underlying f.type
   let k ← skOf d
   let r ← kindsOf fs (n + 1)
   if f.offset = n ∧ f.name ≠ "_" then some (k :: r) else none
def okU : TypeDesc → Bool
 | .slice _ | .string => true
 | _ => false
def isI : TypeDesc → Bool
 | .int _ => true
 | _ => false
def methAt (name : String) (t : Nat) : Option (Nat × Nat) :=
 match P.underlying t, P.info? t with
 | some (.pointer _), some i => match i.methods.find? (·.name == name) with
   | some m => match m.func with
     | some (f, true) => if m.path.isEmpty then some (t, f) else none
     | _ => none
   | none => none
 | _, _ => none
def methTab (name : String) : List (Nat × Nat) := (List.range P.types.size).filterMap (methAt P name)
def isPtr (t : Nat) : Bool := match P.underlying t with | some (.pointer _) => true | _ => false
def stepAt (s : FieldStep) : Option Nat :=
 match s.deref, P.underlying s.struct with
 | false, some (.struct fs) => match fs[s.index]? with
   | some f => if isPtr P f.type then some f.offset else none
   | none => none
 | _, _ => none
def methAt2 (name : String) (t : Nat) : Option (Nat × Nat × Option Nat) :=
 match P.underlying t, P.info? t with
 | some d, some i => match i.methods.find? (·.name == name) with
   | some m => match m.func, m.path.toList with
     | some (f, true), [] => if isPtr P t then some (t, f, none) else none
     | some (f, false), [] => match d with
       | .struct _ => some (t, f, none)
       | _ => none
     | some (f, true), [s] => match stepAt P s with
       | some off => some (t, f, some off)
       | none => none
     | _, _ => none
   | none => none
 | _, _ => none
def methTab2 (name : String) : List (Nat × Nat × Option Nat) := (List.range P.types.size).filterMap (methAt2 P name)
def fineAt (name : String) (t : Nat) : Bool :=
 match P.underlying t, P.info? t with
 | some (.struct _), some i => match i.methods.find? (·.name == name) with
   | some m => match m.func, m.path.toList with
     | some (_, false), [] => true
     | _, _ => false
   | none => false
 | _, _ => false
def fineTab (name : String) : List Nat := (List.range P.types.size).filter (fineAt P name)
def cCall (c : Call) (xs : List AX) : Option AOp :=
 match c.callee with
 | .value (.func f) => some (.call f xs)
 | .value x => do some (.callv (← cX x) xs)
 | .builtin .len => match xs with
   | [x] => do
     let t ← c.argTypes[0]?
     match ← P.underlying t with
     | .slice _ => some (.len false x)
     | .string => some (.len true x)
     | _ => none
   | _ => none
 | .builtin .cap => match xs with
   | [x] => do
     let t ← c.argTypes[0]?
     match ← P.underlying t with
     | .slice _ => some (.capx x)
     | _ => none
   | _ => none
 | .builtin .copy => match xs with
   | [x, y] => do
     let t ← c.argTypes[0]?
     match ← P.underlying t with
     | .slice e => do some (.cpy (← sizeO P e) x y)
     | _ => none
   | _ => none
 | .builtin .min => match xs with | [x, y] => some (.mn x y) | _ => none
 | .builtin .max => match xs with | [x, y] => some (.mx x y) | _ => none
 | .builtin .append => match xs with
   | [x, y] => do
     let t ← c.argTypes[0]?
     let u ← c.argTypes[1]?
     let du ← P.underlying u
     let d ← P.underlying t
     match d, okU du, isI du with
     | .slice e, true, _ => do
       let z ← zeroOf P e
       let i ← P.info? e
       if z.length = i.size ∧ 0 < i.size ∧ 0 < i.bytes then some (.app i.size i.bytes x y) else none
     | .slice e, false, true => do
       let z ← zeroOf P e
       let i ← P.info? e
       if z.length = i.size ∧ 0 < i.size ∧ 0 < i.bytes then some (.appz i.size i.bytes z x y) else none
     | _, _, _ => none
   | _ => none
 | .invoke x name => do
   let ax ← cX x
   if (methTab P name).length = (methTab2 P name).length then
    if (methTab P name).all (fun p => decide (p.1 < MAPT)) then some (.invk (methTab P name) ax xs) else none
   else if (methTab2 P name).all (fun p => decide (p.1 < MAPT)) then some (.invk2 (methTab2 P name) ax xs) else none
 | _ => none
def okMap (t : TypeId) : Option Unit := do
 match ← P.underlying t with
 | .map k e => do
   match ← P.underlying k with
   | .int .i64 => do
     let _ ← zeroOf P e
     match (P.info? e).bind (·.zero) with
     | some (.int .i64 0) => some ()
     | _ => none
   | _ => none
 | _ => none
def cOp (o : Oper) : Option AOp :=
 match o.op with
 | .move x | .assign x => (cX x).map .mv
 | .pick c a b => do some (.pick (← cX c) (← cX a) (← cX b))
 | .alloc t => do
   let z ← zeroOf P t
   match ← aggO P t with
   | true => some (.box (.c (.agg z)))
   | false => match z with | [z] => some (.box (.c z)) | _ => none
 | .box _ x => (cX x).map .box
 | .build t ps => do
   let z ← zeroOf P t
   match ← P.underlying t with
   | .struct fs => do
     let places ← fs.toList.mapM (fun f => (P.info? f.type).map fun i => (f.offset, i.size))
     let ps ← cParts (fun i => places.toArray[i]?) ps.toList
     some (.build z ps)
   | .array _ e => do
     let s ← sizeO P e
     let ps ← cParts (fun i => some (i * s, s)) ps.toList
     some (.build z ps)
   | _ => none
 | .buildSlice t len ps => do
   match ← P.underlying t with
   | .slice e => do
     let s ← sizeO P e
     let z ← zeroOf P e
     let ps ← cParts (fun i => some (i * s, s)) ps.toList
     if z.length = s ∧ 0 < s ∧ len * s ≤ 2 ^ 24 then some (.bslice s len (List.replicate len z).flatten ps) else none
   | _ => none
 | .load t a => do
   match ← aggO P t with
   | true => some (.loadN (← sizeO P t) (← cX a))
   | false => some (.load1 (← cX a))
 | .store t a x => do some (.store (← sizeO P t) (← cX a) (← cX x))
 | .nilCheck x => (cX x).map .nilc
 | .binOp op t x y _ => do
   match ← P.underlying t with
   | .int _ | .string => some (.bin op (← cX x) (← cX y))
   | .bool => match op with
     | .eql => some (.beq false false [.b] (← cX x) (← cX y))
     | .neq => some (.beq true false [.b] (← cX x) (← cX y))
     | _ => none
   | .struct fs => do
     let ks ← kindsOf P fs.toList 0
     if P.stoodInHeld t || P.eqGuardType P.depth t then none else
     match op with
     | .eql => some (.beq false true ks (← cX x) (← cX y))
     | .neq => some (.beq true true ks (← cX x) (← cX y))
     | _ => none
   | .slice _ => match op, y with
     | .eql, .const (.slice none 0 0) => some (.eqnil false true (← cX x))
     | .neq, .const (.slice none 0 0) => some (.eqnil true true (← cX x))
     | _, _ => none
   | .pointer _ => match op, y with
     | .eql, .const (.pointer none) => some (.eqnil false false (← cX x))
     | .neq, .const (.pointer none) => some (.eqnil true false (← cX x))
     | _, _ => none
   | .interface _ => match op, y with
     | .eql, .const .nilIface => some (.eqif false (← cX x))
     | .neq, .const .nilIface => some (.eqif true (← cX x))
     | _, _ => none
   | _ => none
 | .unOp op _ x => do some (.un op (← cX x))
 | .convert s t' x => do
   match ← P.underlying s, ← P.underlying t' with
   | .int _, .int k => some (.convi k (← cX x))
   | .string, .slice e => do
     match ← P.underlying e with
     | .int .u8 => some (.convsb (← cX x))
     | _ => none
   | .slice e, .string => do
     match ← P.underlying e with
     | .int .u8 => some (.convbs (← cX x))
     | _ => none
   | .string, .string => some (.convss (← cX x))
   | .int _, .string => some (.convis (← cX x))
   | .slice _, .slice e => do
     match ← P.underlying e, s == t' with
     | .int .u8, true => some (.convl (← cX x))
     | _, _ => none
   | _, _ => none
 | .makeSlice t l c => do
   match ← P.underlying t with
   | .slice e => do some (.mkslice (← sizeO P e) ((← P.info? e).bytes) (← zeroOf P e) (← cX l) (← cX c))
   | _ => none
 | .slice t x lo hi mx => do
   match ← P.underlying t, mx with
   | .slice e, none => some (.slice (← sizeO P e) (← cX x) (← cOptX lo) (← cOptX hi))
   | .string, none => some (.sstr (← cX x) (← cOptX lo) (← cOptX hi))
   | .slice e, some m => match hi with
     | some h => do some (.slice3 (← sizeO P e) (← cX x) (← cOptX lo) (← cX h) (← cX m))
     | none => none
   | _, _ => none
 | .fieldAddr t x i => do
   match ← P.underlying t with
   | .struct fs => do
     let f ← fs[i]?
     let s ← sizeO P f.type
     let x ← cX x
     if 0 < s then some (.faddr f.offset x) else none
   | _ => none
 | .field t x i => do
   match ← P.underlying t with
   | .struct fs => do
     let f ← fs[i]?
     match ← aggO P f.type with
     | true => some (.fieldN f.offset (← sizeO P f.type) (← cX x))
     | false => some (.field1 f.offset (← cX x))
   | _ => none
 | .indexAddr t x i => do
   match ← P.underlying t with
   | .slice e => do some (.iaddr (← sizeO P e) (← cX x) (← cX i))
   | .array n e => do some (.aaddr n (← sizeO P e) (← cX x) (← cX i))
   | _ => none
 | .index t x i => do
   match ← P.underlying t with
   | .string => some (.sidx (← cX x) (← cX i))
   | .array n e => do
     match ← aggO P e, ← sizeO P e with
     | false, 1 => some (.aidx n (← cX x) (← cX i))
     | _, _ => none
   | _ => none
 | .extract x i => do some (.ext (← cX x) i)
 | .call c => do
   let xs ← cXs c.args.toList
   cCall P c xs
 | .makeInterface t x => do
   match ← P.underlying t with
   | .interface _ => none
   | _ => do
     let ax ← cX x
     if t < MAPT then some (.mkifc t ax) else none
 | .typeAssert x _ t ok => do
   match ← P.underlying t, ok with
   | .interface _, _ => none
   | _, false => do
     let ax ← cX x
     if t < MAPT then some (.asrt t ax) else none
   | _, _ => none
 | .makeMap t none => do
   let _ ← okMap P t
   some .mkmap
 | .lookup t x k false => do
   let _ ← okMap P t
   some (.mlook (← cX x) (← cX k))
 | .mapEntry t x k => do
   let _ ← okMap P t
   some (.ment (← cX x) (← cX k))
 | .mapUpdate t x k v => do
   let _ ← okMap P t
   some (.mup (← cX x) (← cX k) (← cX v))
 | .entryStore _ x y v => do some (.mst (← cX x) (← cX y) (← cX v))
 | .makeFunc (.func f) first caps => do
   match first.toList, caps.toList with
   | [], _ => do
     let l ← cXs caps.toList
     some (.mkfn f l)
   | [x], [] => (cX x).map (.bnd f)
   | _, _ => none
 | .makeFunc (.method nm) first caps => do
   match first.toList, caps.toList with
   | [x], [] => (cX x).map (.mkmv nm)
   | _, _ => none
 | _ => none
def boundAt (ops : Array Oper) (d : Nat) : Option String :=
 match ops.toList.find? (fun o => o.dst == some d) with
 | some o => match o.op with
   | .makeFunc (.method nm) _ _ => some nm
   | _ => none
 | none => none
def cOpM (ops : Array Oper) (o : Oper) : Option AOp :=
 match o.op with
 | .nilCheck (.tmp d) => match boundAt ops d with
   | some nm => if (fineTab P nm).all (fun t => decide (t < MAPT)) then some (.nilm nm (fineTab P nm) (.t d)) else none
   | none => cOp P o
 | _ => cOp P o
def cOper (N : Nat) (ops : Array Oper) (o : Oper) : Option AOper := do
 let op := (cOpM P ops o).getD .bad
 let g ← match o.guard with
  | none => some none
  | some (j, w) => do
    let d ← (ops[j]?).bind (·.dst)
    some (some (d, w))
 if (o.dst.all fun d => decide (d < N)) = true then some ⟨o.dst, op, g⟩ else none
def maskOf (B : List Nat) (o : Oper) : Nat := o.after.toList.foldl (fun s e => if Region.binds .any e then s ||| (2 ^ e.on ||| B.getD e.on 0) else s) 0
def masksOk (ops : List Oper) (B : List Nat) : Bool := ops.length == B.length && (ops.zip B).zipIdx.all fun p => maskOf B p.1.1 == p.1.2 && p.1.1.after.toList.all fun e => !Region.binds .any e || decide (e.on < p.2)
def AX.tmps : AX → List Nat
 | .t n => [n]
 | .c _ => []
def optTmps : Option AX → List Nat
 | some x => x.tmps
 | none => []
def AOp.tmps : AOp → List Nat
 | .mv x | .box x | .load1 x | .loadN _ x | .nilc x | .eqnil _ _ x | .un _ x | .convi _ x | .convss x | .convsb x | .convbs x | .faddr _ x | .field1 _ x | .fieldN _ _ x | .ext x _ | .len _ x | .capx x | .convl x | .convis x | .mkifc _ x | .asrt _ x | .bnd _ x | .mkmv _ x | .nilm _ _ x | .eqif _ x => x.tmps
 | .pick c a b => c.tmps ++ a.tmps ++ b.tmps
 | .build _ ps | .bslice _ _ _ ps => ps.flatMap fun p => p.2.2.tmps
 | .store _ x y | .bin _ x y | .beq _ _ _ x y | .mkslice _ _ _ x y | .iaddr _ x y | .aaddr _ _ x y | .sidx x y | .app _ _ x y | .mn x y | .mx x y | .appz _ _ _ x y | .aidx _ x y | .cpy _ x y => x.tmps ++ y.tmps
 | .slice _ x lo hi | .sstr x lo hi => x.tmps ++ optTmps lo ++ optTmps hi
 | .slice3 _ x lo hi m3 => x.tmps ++ optTmps lo ++ hi.tmps ++ m3.tmps
 | .call _ xs | .mkfn _ xs => xs.flatMap AX.tmps
 | .callv x xs => x.tmps ++ xs.flatMap AX.tmps
 | .invk _ x xs => x.tmps ++ xs.flatMap AX.tmps
 | .invk2 _ x xs => x.tmps ++ xs.flatMap AX.tmps
 | .mlook x k | .ment x k => x.tmps ++ k.tmps
 | .mst x y v | .mup x y v => x.tmps ++ y.tmps ++ v.tmps
 | .mkmap => []
 | .bad => []
 | .ck ts o => ts ++ o.tmps
def isPure : AOp → Bool
 | .mv .. | .pick .. | .build .. | .nilc .. | .bin .. | .beq .. | .eqnil .. | .un .. | .convi .. | .convss .. | .sstr .. | .faddr .. | .field1 .. | .fieldN .. | .iaddr .. | .aaddr .. | .sidx .. | .ext .. | .mkfn .. | .len .. | .mn .. | .mx .. | .bad | .capx .. | .aidx .. | .convis .. | .mkifc .. | .asrt .. | .bnd .. | .mkmv .. | .nilm .. | .eqif .. => true
 | _ => false
def isReader : AOp → Bool
 | .load1 .. | .loadN .. | .convbs .. | .slice .. | .slice3 .. | .mlook .. => true
 | _ => false
def isLoud (ao : AOp) : Bool := !isPure ao && !isReader ao
def drawOk (ops : List AOper) (B : List Nat) : Bool :=
 let ix := ops.zipIdx
 ix.all fun p =>
  -- temporaries: written once; what is looked at is written ahead of it, or not at all
  (match p.1.dst with | some d => ix.all fun q => q.2 == p.2 || q.1.dst != some d | none => true) &&
  ((p.1.op.tmps ++ (match p.1.guard with | some g => [g.1] | none => [])).all fun t => ix.all fun q => q.1.dst != some t || (B.getD p.2 0).testBit q.2) &&
  -- what is loud, and what reads, is in order
  (isPure p.1.op || ix.all fun q => isPure q.1.op || (isReader p.1.op && isReader q.1.op) || decide (p.2 ≤ q.2) || (B.getD p.2 0).testBit q.2)
/-! a region whose order is drawn, where what reads or makes may come up beside what acts -/
def isAlloc : AOp → Bool
 | .box .. | .bslice .. | .mkslice .. | .convsb .. => true
 | _ => false
def isActor (ao : AOp) : Bool := isLoud ao && !isAlloc ao
def rdT : AOp → List Nat
 | .load1 x | .loadN _ x | .convbs x => x.tmps
 | .slice _ x _ _ => x.tmps
 | .slice3 _ x _ _ _ => x.tmps
 | .mlook x _ => x.tmps
 | _ => []
def isCk : AOp → Bool
 | .ck .. => true
 | _ => false
def preds (B : List Nat) (i j : Nat) : Bool := (B.getD i 0).testBit j
def canonIns (l : Array AOper) (B : List Nat) (out : List Nat) (i : Nat) : List Nat :=
 match l[i]? with
 | none => out
 | some o =>
   if isReader o.op || isAlloc o.op then
    let p := out.findIdx fun k => match l[k]? with | some q => isActor q.op && !preds B i k | none => false
    if p < out.length then
     let gi := o.guard
     let pre := out.take p
     -- ahead of the whole side way
     let back := (pre.reverse.takeWhile fun k => match l[k]?, (out[p]?).bind (l[·]?) with | some q, some z => z.guard.isSome && z.guard != gi && q.guard.isSome && q.guard != gi | _, _ => false).length
     let p := match (out[p]?).bind (l[·]?) with | some z => if z.guard.isSome && z.guard != gi then p - back else p | none => p
     let post := out.drop p
     out.take p ++ (post.filter fun j => preds B i j) ++ [i] ++ post.filter fun j => !preds B i j
    else out ++ [i]
   else out ++ [i]
def canonOrd (l : List AOper) (B : List Nat) : List Nat := (List.range l.length).foldl (canonIns l.toArray B) []
def wrapOne (l : List AOper) (B : List Nat) (ord : List Nat) (i a : Nat) : AOper :=
 match l[a]? with
 | some o =>
   if isActor o.op then
    match (ord.take i).flatMap fun j => match l[j]? with | some q => if preds B a j then [] else if isReader q.op then rdT q.op else if isAlloc q.op then q.dst.toList else [] | none => [] with
    | [] => o
    | ts => ⟨o.dst, .ck ts o.op, o.guard⟩
   else o
 | none => ⟨none, .bad, none⟩
def wrapCk (l : List AOper) (B : List Nat) (ord : List Nat) : List AOper := ord.zipIdx.map fun p => wrapOne l B ord p.2 p.1
def canonOk (l : List AOper) (B : List Nat) (ord : List Nat) : Bool :=
 let n := l.length
 ord.length == n && (List.range n).all (fun i => ord.contains i) && ord.all (fun i => decide (i < n)) &&
 (List.range n).all fun i => (List.range n).all fun j =>
   match ord[i]?, ord[j]? with
   | some a, some b => match l[a]?, l[b]? with
     | some p, some q =>
       (i == j || a != b) &&
       -- it is an order
       (!preds B a b || decide (j < i)) &&
       -- temporaries: written once; what is looked at is written ahead of it, or not at all
       (match p.dst, q.dst with | some d, some e => d != e || i == j | _, _ => true) &&
       (match q.dst with | some d => (p.op.tmps ++ (match p.guard with | some g => [g.1] | none => [])).all (fun t => t != d || preds B a b || (preds B b a && !(isReader p.op && (rdT p.op).contains t))) | none => true) &&
       -- what acts is in order
       (!(isActor p.op && isActor q.op && decide (j < i)) || preds B a b) &&
       (!((isReader p.op || isAlloc p.op) && isActor q.op && decide (j < i)) || preds B a b) &&
       (!isReader p.op || !(rdT p.op).isEmpty) && (!isAlloc p.op || p.dst.isSome) && !isCk p.op
     | _, _ => false
   | _, _ => false
def cCode (N : Nat) : Code → Option AC
 | .skip => some .skip
 | .region id ops draw => do
   let l ← ops.toList.mapM (cOper P N ops)
   match draw with
   | false => some (.reg id false l)
   | true =>
     let B := (Region.before ops).toList
     if masksOk ops.toList B && drawOk l B then some (.reg id false l)
     else if masksOk ops.toList B && canonOk l B (canonOrd l B) then some (.reg id false (wrapCk l B (canonOrd l B))) else none
 | .seq a b => do some (.seq (← cCode N a) (← cCode N b))
 | .cond c a b => do some (.cond (← cX c) (← cCode N a) (← cCode N b))
 | .block id c => do some (.block id (← cCode N c))
 | .loop c => do some (.loop (← cCode N c))
 | .exit id => some (.exit id)
 | .ret => some .ret
 | _ => none
def cRes : ResultVar → Option ARes
 | .tmp t => some (.tmp t)
 | .cell a t => do
   match ← aggO P t with
   | true => some (.cellN a (← sizeO P t))
   | false => some (.cell1 a)
def cFunc (f : Nat) : Option AFunc := do
 let fn ← P.funcs[f]?
 let c ← fn.body
 let code ← cCode P fn.ntmps c
 let rs ← fn.results.toList.mapM (cRes P)
 some ⟨fn.params.size + fn.nfree, rs, code⟩
end
/-! run -/
def evX (fr : T AV) : AX → Option AV
 | .t n => fr.get n
 | .c v => some v
def evXs (fr : T AV) : List AX → Option (List AV)
 | [] => some []
 | x :: r => match evX fr x with
   | some v => match evXs fr r with
     | some vs => some (v :: vs)
     | none => none
   | none => none
def binI (o : BinOp) (k : IntKind) (a b : Int) : Option Value :=
 match o with
 | .add => some (.int k (k.wrap (a + b)))
 | .sub => some (.int k (k.wrap (a - b)))
 | .mul => some (.int k (k.wrap (a * b)))
 | .quo => if b = 0 then none else some (.int k (k.wrap (a.tdiv b)))
 | .rem => if b = 0 then none else some (.int k (a.tmod b))
 | .and => some (.int k (k.wrap (BitVec.ofInt k.bits a &&& BitVec.ofInt k.bits b).toNat))
 | .or => some (.int k (k.wrap (BitVec.ofInt k.bits a ||| BitVec.ofInt k.bits b).toNat))
 | .xor => some (.int k (k.wrap (BitVec.ofInt k.bits a ^^^ BitVec.ofInt k.bits b).toNat))
 | .andNot => some (.int k (k.wrap (BitVec.ofInt k.bits a &&& ~~~ BitVec.ofInt k.bits b).toNat))
 | .eql => some (.bool (a == b))
 | .neq => some (.bool (a != b))
 | .lss => some (.bool (a < b))
 | .leq => some (.bool (a ≤ b))
 | .gtr => some (.bool (a > b))
 | .geq => some (.bool (a ≥ b))
 | _ => none
def binV (o : BinOp) (x y : Value) : Option Value :=
 match o, x, y with
 | .shl, .int k a, .int _ b => if b < 0 then none else some (.int k (k.wrap (a * 2 ^ (min b.toNat k.bits))))
 | .shr, .int k a, .int _ b => if b < 0 then none else some (.int k (a.fdiv (2 ^ (min b.toNat k.bits))))
 | o, .int k a, .int k' b => if k = k' then binI o k a b else none
 | .add, .string a, .string b => if ((a.size + b.size : Nat) : Int) > IntKind.i64.max then none else some (.string (a ++ b))
 | .eql, .string a, .string b => some (.bool (a.toList == b.toList))
 | .neq, .string a, .string b => some (.bool !(a.toList == b.toList))
 | _, _, _ => none
def scalarEq : SK → Value → Value → Option Bool
 | .i, .int k a, .int k' b => if k = k' then some (a == b) else none
 | .b, .bool a, .bool b => some (a == b)
 | .s, .string a, .string b => some (a == b)
 | _, _, _ => none
def cellsEq : List SK → List AV → List AV → Option Bool
 | [], [], [] => some true
 | k :: ks, (.v a) :: r, (.v b) :: s => match scalarEq k a b with
   | some true => cellsEq ks r s
   | some false => some false
   | none => none
 | _, _, _ => none
def avEq (agg : Bool) (ks : List SK) (x y : AV) : Option Bool :=
 match agg, x, y with
 | false, .v a, .v b => scalarEq .b a b
 | true, .agg a, .agg b => cellsEq ks a b
 | _, _, _ => none
def unV (o : UnOp) (x : Value) : Option Value :=
 match o, x with
 | .neg, .int k n => some (.int k (k.wrap (0 - n)))
 | .xor, .int k n => some (.int k (k.wrap (BitVec.ofInt k.bits (if k.signed then -1 else k.max) ^^^ BitVec.ofInt k.bits n).toNat))
 | .not, .bool b => some (.bool !b)
 | _, _ => none
def AV.one : AV → Bool
 | .agg _ | .tup _ => false
 | _ => true
def AV.cs : AV → Option (List AV)
 | .agg cs => some cs
 | .tup _ => none
 | x => some [x]
def putAt : List AV → Nat → List AV → Option (List AV)
 | cs, 0, [] => some cs
 | _ :: cs, 0, v :: vs => (putAt cs 0 vs).map (v :: ·)
 | c :: cs, o + 1, vs => (putAt cs o vs).map (c :: ·)
 | [], 0, _ :: _ => none
 | [], _ + 1, _ => none
def fillA (fr : T AV) (cs : List AV) : List (Nat × Nat × AX) → Option (List AV)
 | [] => some cs
 | (o, s, x) :: r => match evX fr x with
   | some v => match v.cs with
     | some vs => if vs.length = s then
        match putAt cs o vs with
        | some cs => fillA fr cs r
        | none => none
       else none
     | none => none
   | none => none
def Heap.alloc (H : Heap) (es : Nat) (cs : List AV) : Heap := ⟨H.next + 1, H.blks.set H.next (some ⟨cs, true, none, es⟩)⟩
def Heap.kill (H : Heap) : Option Nat → Heap
 | none => H
 | some m => ⟨H.next, H.blks.set m none⟩
def Heap.upd (H : Heap) (b : Nat) (blk : Blk) (cs : List AV) : Heap := ⟨H.next, (H.kill blk.mate).blks.set b (some ⟨cs, true, none, blk.es⟩)⟩
def Heap.write (H : Heap) (b off : Nat) (vs : List AV) : Option Heap :=
 match H.blks.get b with
 | some blk => if blk.wr then
    match putAt blk.cells off vs with
    | some cs => some ⟨H.next, (H.kill blk.mate).blks.set b (some ⟨cs, true, none, blk.es⟩)⟩
    | none => none
   else none
 | none => none
def takeN : Nat → List AV → Option (List AV)
 | 0, _ => some []
 | n + 1, v :: vs => (takeN n vs).map (v :: ·)
 | _ + 1, [] => none
def getN (H : Heap) (b off n : Nat) : Option (List AV) :=
 match H.blks.get b with
 | some blk => takeN n (blk.cells.drop off)
 | none => none
def bytesOf : List AV → Option (List UInt8)
 | [] => some []
 | (AV.v (Value.int IntKind.u8 n)) :: r => (bytesOf r).map ((UInt8.ofNat n.toNat) :: ·)
 | _ => none
def natOf (n : Int) (hi : Nat) : Option Nat := if 0 ≤ n ∧ n ≤ hi then some n.toNat else none
def boundX (fr : T AV) (d hi : Nat) : Option AX → Option Nat
 | none => some d
 | some x => match evX fr x with
   | some (.v (.int _ n)) => natOf n hi
   | _ => none
def newsOf (H : Heap) (es : Nat) : AV → Option (Nat × List AV)
 | .v (.slice none 0 0) => some (0, [])
 | .sl b off len _ _ => (getN H b off (len * es)).map (len, ·)
 | .v (.string s) => if es = 1 then some (s.size, s.data.toList.map fun b => .v (.int .u8 b.toNat)) else none
 | _ => none
def Heap.mate2 (H : Heap) (b : Nat) (blk : Blk) (cs : List AV) : Heap :=
 ⟨H.next + 1, ((H.kill blk.mate).blks.set b (some ⟨blk.cells, blk.wr, some H.next, blk.es⟩)).set H.next (some ⟨cs, true, some b, blk.es⟩)⟩
def appendA (H : Heap) (es bytes : Nat) (s x : AV) : Option (AV × Heap) :=
 match newsOf H es x with
 | none => none
 | some (m, news) =>
   match s with
   | .v (.slice none 0 0) =>
     match m with
     | 0 => some (s, H)
     | _ => if m * bytes ≤ 2 ^ 47 then some (.sl H.next 0 m m false, H.alloc es news) else none
   | .sl b off len cap ex =>
     if len + m ≤ cap then
      match m with
      | 0 => some (.sl b off len cap ex, H)
      | _ => match H.write b (off + len * es) news with
        | some H => some (.sl b off (len + m) cap ex, H)
        | none => none
     else match H.blks.get b with
      | none => none
      | some blk => match takeN (len * es) (blk.cells.drop off) with
        | none => none
        | some old =>
          if blk.es = es ∧ (len + m) * bytes ≤ 2 ^ 47 then
           if ex then some (.sl H.next 0 (len + m) (len + m) false, H.alloc es (old ++ news))
           else if blk.cells.length = off + cap * es ∧ blk.wr then
            if len = cap then some (.sl H.next 0 (len + m) (len + m) false, H.mate2 b blk (old ++ news)) else none
           else none
          else none
   | _ => none
def lenA : AV → Option Nat
 | .v (.slice none 0 0) => some 0
 | .sl _ _ len _ _ => some len
 | .v (.string s) => some s.size
 | _ => none
def firstA (H : Heap) (es k : Nat) : AV → Option (List AV)
 | .v (.slice none 0 0) => some []
 | .sl b off _ _ _ => getN H b off (k * es)
 | .v (.string s) => if es = 1 then some ((s.data.toList.take k).map fun b => .v (.int .u8 b.toNat)) else none
 | _ => none
def cpyA (H : Heap) (es : Nat) (d s : AV) : Option (AV × Heap) :=
 match lenA s with
 | none => none
 | some m =>
   match d with
   | .v (.slice none 0 0) => some (.v (.int .i64 0), H)
   | .sl b off len _ _ => match Nat.min m len with
     | 0 => some (.v (.int .i64 0), H)
     | k + 1 => match firstA H es (k + 1) s with
       | some news => match H.write b off news with
         | some H => some (.v (.int .i64 (k + 1 : Nat)), H)
         | none => none
       | none => none
   | _ => none
def mapP : List Value → Option (List (Int × Int))
 | [] => some []
 | .int .i64 k :: .int .i64 v :: r => match mapP r with
   | some l => some ((k, v) :: l)
   | none => none
 | _ => none
def mapL : List (Int × Int) → List Value
 | [] => []
 | e :: r => .int .i64 e.1 :: .int .i64 e.2 :: mapL r
def mapV (l : List (Int × Int)) : Value := .agg (mapL l).toArray
def mapC (l : List (Int × Int)) : List AV := [.v (mapV l)]
def mapD : List AV → Option (List (Int × Int))
 | [.v (.agg a)] => mapP a.toList
 | _ => none
def mapF (k : Int) : List (Int × Int) → Nat → Option (Nat × Int)
 | [], _ => none
 | e :: r, i => if k = e.1 then some (i, e.2) else mapF k r (i + 1)
def mapG (H : Heap) : AV → Option (Nat × Blk × List (Int × Int))
 | .ifc t (.ptr b 0) => if t = MAPT then match H.blks.get b with
    | some blk => match mapD blk.cells with
      | some l => some (b, blk, l)
      | none => none
    | none => none
   else none
 | _ => none
def blkOf : AV → Option Nat
 | .ptr b _ => some b
 | .sl b _ _ _ _ => some b
 | .ifc _ (.ptr b _) => some b
 | _ => none
def Unch (ts : List Nat) (fr : T AV) (H H' : Heap) : Prop := ∀ t, t ∈ ts → ∃ v, fr.get t = some v ∧ ∀ b, blkOf v = some b → H'.blks.get b = H.blks.get b
open Classical in
noncomputable def evOp (call : Nat → List AV → Heap → Option (AV × Heap)) (o : AOp) (fr : T AV) (H : Heap) : Option (AV × Heap) :=
 match o with
 | .mv x => match evX fr x with | some v => some (v, H) | none => none
 | .pick c a b => match evX fr c with
   | some (.v (.bool true)) => match evX fr a with | some v => some (v, H) | none => none
   | some (.v (.bool false)) => match evX fr b with | some v => some (v, H) | none => none
   | _ => none
 | .box x => match evX fr x with
   | some v => match v.cs with
     | some vs => some (.ptr H.next 0, H.alloc 0 vs)
     | none => none
   | none => none
 | .build z ps => match fillA fr z ps with | some cs => some (.agg cs, H) | none => none
 | .bslice es len z ps => match fillA fr z ps with | some cs => some (.sl H.next 0 len len true, H.alloc es cs) | none => none
 | .load1 x => match evX fr x with
   | some (.ptr b off) => match getN H b off 1 with | some [v] => some (v, H) | _ => none
   | _ => none
 | .loadN n x => match evX fr x with
   | some (.ptr b off) => match getN H b off n with | some vs => some (.agg vs, H) | _ => none
   | _ => none
 | .store n x y => match evX fr x, evX fr y with
   | some (.ptr b off), some v => match v.cs with
     | some vs => if vs.length = n then
        match H.write b off vs with
        | some H => some (.tup [], H)
        | none => none
       else none
     | none => none
   | _, _ => none
 | .nilc x => match evX fr x with
   | some (.ptr b off) => some (.ptr b off, H)
   | some (.fn f c) => some (.fn f c, H)
   | _ => none
 | .bin o x y => match evX fr x, evX fr y with
   | some (.v a), some (.v b) => match binV o a b with | some v => some (.v v, H) | none => none
   | _, _ => none
 | .beq neq agg ks x y => match evX fr x, evX fr y with
   | some a, some b => match avEq agg ks a b with | some r => some (.v (.bool (xor neq r)), H) | none => none
   | _, _ => none
 | .eqnil neq sl x => match sl, evX fr x with
   | false, some (.v (.pointer none)) => some (.v (.bool !neq), H)
   | true, some (.v (.slice none 0 0)) => some (.v (.bool !neq), H)
   | false, some (.ptr _ _) => some (.v (.bool neq), H)
   | true, some (.sl ..) => some (.v (.bool neq), H)
   | _, _ => none
 | .un o x => match evX fr x with
   | some (.v a) => match unV o a with | some v => some (.v v, H) | none => none
   | _ => none
 | .convi k x => match evX fr x with
   | some (.v (.int _ n)) => some (.v (.int k (k.wrap n)), H)
   | _ => none
 | .convss x => match evX fr x with
   | some (.v (.string s)) => some (.v (.string s), H)
   | _ => none
 | .convsb x => match evX fr x with
   | some (.v (.string s)) => some (.sl H.next 0 s.size s.size false, H.alloc 1 (s.data.toList.map fun b => .v (.int .u8 b.toNat)))
   | _ => none
 | .convbs x => match evX fr x with
   | some (.v (.slice none 0 0)) => some (.v (.string .empty), H)
   | some (.sl b off len _ _) => match getN H b off len with
     | some cs => match bytesOf cs with | some l => some (.v (.string ⟨l.toArray⟩), H) | none => none
     | none => none
   | _ => none
 | .mkslice es bytes z l c => match evX fr l, evX fr c with
   | some (.v (.int _ l)), some (.v (.int _ c)) =>
     if 0 ≤ l ∧ l ≤ c ∧ (bytes : Int) * c ≤ 2 ^ 47 ∧ c < 2 ^ 63 ∧ z.length = es ∧ 0 < es then some (.sl H.next 0 l.toNat c.toNat true, H.alloc es (List.replicate c.toNat z).flatten) else none
   | _, _ => none
 | .slice es x lo hi => match evX fr x with
   | some (.v (.slice none 0 0)) => match boundX fr 0 0 hi with
     | some h => match boundX fr 0 h lo with
       | some _ => some (.v (.slice none 0 0), H)
       | none => none
     | none => none
   | some (.sl b off len cap ex) => match boundX fr len cap hi with
     | some h => match boundX fr 0 h lo with
       | some l => match H.blks.get b with
         | some blk => if blk.es = es then some (.sl b (off + l * es) (h - l) (cap - l) ex, H) else none
         | none => none
       | none => none
     | none => none
   | _ => none
 | .sstr x lo hi => match evX fr x with
   | some (.v (.string s)) => match boundX fr s.size s.size hi with
     | some h => match boundX fr 0 h lo with
       | some l => some (.v (.string (s.extract l h)), H)
       | none => none
     | none => none
   | _ => none
 | .faddr off x => match evX fr x with
   | some (.ptr b o) => some (.ptr b (o + off), H)
   | _ => none
 | .field1 off x => match evX fr x with
   | some (.agg cs) => match cs[off]? with | some v => some (v, H) | none => none
   | _ => none
 | .fieldN off n x => match evX fr x with
   | some (.agg cs) => match takeN n (cs.drop off) with | some vs => some (.agg vs, H) | none => none
   | _ => none
 | .iaddr es x i => match evX fr x, evX fr i with
   | some (.sl b off len _ _), some (.v (.int _ n)) => if 0 ≤ n ∧ n < len then some (.ptr b (off + n.toNat * es), H) else none
   | _, _ => none
 | .aaddr len es x i => match evX fr x, evX fr i with
   | some (.ptr b off), some (.v (.int _ n)) => if 0 ≤ n ∧ n < len then some (.ptr b (off + n.toNat * es), H) else none
   | _, _ => none
 | .sidx x i => match evX fr x, evX fr i with
   | some (.v (.string s)), some (.v (.int _ n)) => if 0 ≤ n then match s.data.toList[n.toNat]? with | some b => some (.v (.int .u8 b.toNat), H) | none => none else none
   | _, _ => none
 | .ext x i => match evX fr x with
   | some (.tup vs) => match vs[i]? with | some v => some (v, H) | none => none
   | _ => none
 | .call f xs => match evXs fr xs with
   | some vs => call f vs H
   | none => none
 | .callv x xs => match evX fr x with
   | some (.fn f caps) => match evXs fr xs with
     | some vs => call f (vs ++ caps) H
     | none => none
   | some (.ifc t c) => if BNDT ≤ t then match evXs fr xs with
     | some vs => call (t - BNDT) (c :: vs) H
     | none => none else none
   | _ => none
 | .mkfn f xs => match evXs fr xs with
   | some vs => some (.fn f vs, H)
   | none => none
 | .mkifc t x => match evX fr x with
   | some v => some (.ifc t v, H)
   | none => none
 | .mkmap => some (.ifc MAPT (.ptr H.next 0), H.alloc 0 (mapC []))
 | .mlook x k => match evX fr x, evX fr k with
   | some m, some (.v (.int .i64 n)) => match mapG H m with
     | some (_, _, l) => match mapF n l 0 with
       | some (_, v) => some (.v (.int .i64 v), H)
       | none => some (.v (.int .i64 0), H)
     | none => none
   | _, _ => none
 | .ment x k => match evX fr x, evX fr k with
   | some m, some (.v (.int .i64 n)) => match mapG H m with
     | some (b, blk, l) => match mapF n l 0 with
       | some (i, v) => some (.tup [.v (.int .i64 v), .v (.int .i64 i)], H)
       | none => some (.tup [.v (.int .i64 0), .v (.int .i64 l.length)], H.upd b blk (mapC (l ++ [(n, 0)])))
     | none => none
   | _, _ => none
 | .mst x y v => match evX fr x, evX fr y, evX fr v with
   | some m, some (.v (.int .i64 i)), some (.v (.int .i64 n)) => match mapG H m with
     | some (b, blk, l) => match l[i.toNat]? with
       | some e => if 0 ≤ i then some (.tup [], H.upd b blk (mapC (l.set i.toNat (e.1, n)))) else none
       | none => none
     | none => none
   | _, _, _ => none
 | .mup x k v => match evX fr x, evX fr k, evX fr v with
   | some m, some (.v (.int .i64 n)), some (.v (.int .i64 z)) => match mapG H m with
     | some (b, blk, l) => match mapF n l 0 with
       | some (i, _) => some (.tup [], H.upd b blk (mapC (l.set i (n, z))))
       | none => some (.tup [], H.upd b blk (mapC (l ++ [(n, z)])))
     | none => none
   | _, _, _ => none
 | .asrt t x => match evX fr x with
   | some (.ifc u v) => if u = t then some (v, H) else none
   | _ => none
 | .invk tb x xs => match evX fr x with
   | some (.ifc t v) => match tb.lookup t with
     | some f => match evXs fr xs with
       | some vs => call f (v :: vs) H
       | none => none
     | none => none
   | _ => none
 | .bnd f x => match evX fr x with
   | some c => some (.ifc (BNDT + f) c, H)
   | none => none
 | .mkmv nm x => match evX fr x with
   | some c => some (.ifc MVT (.tup [.v (.string nm.toUTF8), c]), H)
   | none => none
 | .nilm nm tb x => match evX fr x with
   | some (.ifc t (.tup [.v (.string s), .ifc u c])) => if t = MVT ∧ s = nm.toUTF8 ∧ u ∈ tb then some (.ifc t (.tup [.v (.string s), .ifc u c]), H) else none
   | _ => none
 | .eqif neq x => match evX fr x with
   | some (.v .nilIface) => some (.v (.bool !neq), H)
   | some (.ifc t _) => if t < MAPT then some (.v (.bool neq), H) else none
   | _ => none
 | .invk2 tb x xs => match evX fr x with
   | some (.ifc t v) => match tb.lookup t with
     | some (f, none) => match evXs fr xs with
       | some vs => call f (v :: vs) H
       | none => none
     | some (f, some off) => match v with
       | .agg cs => match cs[off]? with
         | some r => match evXs fr xs with
           | some vs => call f (r :: vs) H
           | none => none
         | none => none
       | _ => none
     | none => none
   | _ => none
 | .app es bytes x y => match evX fr x, evX fr y with
   | some s, some x => appendA H es bytes s x
   | _, _ => none
 | .len str x => match str, evX fr x with
   | false, some (.sl _ _ n _ _) => some (.v (.int .i64 n), H)
   | false, some (.v (.slice none 0 0)) => some (.v (.int .i64 0), H)
   | true, some (.v (.string s)) => some (.v (.int .i64 s.size), H)
   | _, _ => none
 | .mn x y => match evX fr x, evX fr y with
   | some (.v (.int k a)), some (.v (.int _ b)) => some (.v (.int k (if b < a then b else a)), H)
   | _, _ => none
 | .mx x y => match evX fr x, evX fr y with
   | some (.v (.int k a)), some (.v (.int _ b)) => some (.v (.int k (if b > a then b else a)), H)
   | _, _ => none
 | .bad => none
 | .capx x => match evX fr x with
   | some (.v (.slice none 0 0)) => some (.v (.int .i64 0), H)
   | some (.sl _ _ _ cap true) => some (.v (.int .i64 cap), H)
   | _ => none
 | .convl x => match evX fr x with
   | some (.sl b off len cap ex) => match H.blks.get b with
     | some blk => if blk.wr = true ∧ 0 < cap then some (.sl b off len cap ex, H) else none
     | none => none
   | _ => none
 | .appz es bytes z x y => match evX fr x, evX fr y with
   | some (.v (.slice none 0 0)), some (.v (.int .i64 n)) => if 0 < n ∧ n * bytes ≤ 2 ^ 47 then some (.sl H.next 0 n.toNat n.toNat false, H.alloc es (List.replicate n.toNat z).flatten) else none
   | _, _ => none
 | .slice3 es x lo hi m3 => match evX fr x with
   | some (.v (.slice none 0 0)) => match boundX fr 0 0 (some m3) with
     | some m => match boundX fr 0 m (some hi) with
       | some h => match boundX fr 0 h lo with
         | some _ => some (.v (.slice none 0 0), H)
         | none => none
       | none => none
     | none => none
   | some (.sl b off len cap ex) => match boundX fr 0 cap (some m3) with
     | some m => match boundX fr 0 m (some hi) with
       | some h => match boundX fr 0 h lo with
         | some l => match H.blks.get b with
           | some blk => if blk.es = es then some (.sl b (off + l * es) (h - l) (m - l) true, H) else none
           | none => none
         | none => none
       | none => none
     | none => none
   | _ => none
 | .aidx len x i => match evX fr x, evX fr i with
   | some (.agg cs), some (.v (.int _ n)) => if 0 ≤ n ∧ n < len then match cs[n.toNat]? with | some v => some (v, H) | none => none else none
   | _, _ => none
 | .convis x => match evX fr x with
   | some (.v (.int _ n)) => some (.v (.string (Utf8.encode n)), H)
   | _ => none
 | .cpy es x y => match evX fr x, evX fr y with
   | some d, some s => cpyA H es d s
   | _, _ => none
 | .ck ts o => match evOp call o fr H with
   | some (v, H') => if Unch ts fr H H' then some (v, H') else none
   | none => none
def putD (fr : T AV) (d : Option Nat) (v : AV) : T AV :=
 match d with
 | some d => fr.set d (some v)
 | none => fr
noncomputable def evOps (call : Nat → List AV → Heap → Option (AV × Heap)) : List AOper → T AV → Heap → Option (T AV × Heap)
 | [], fr, H => some (fr, H)
 | o :: rest, fr, H =>
   match o.guard with
   | none => match evOp call o.op fr H with
     | some (v, H) => evOps call rest (putD fr o.dst v) H
     | none => none
   | some (g, w) => match fr.get g with
     | some (.v (.bool b)) => if b = w then
        match evOp call o.op fr H with
        | some (v, H) => evOps call rest (putD fr o.dst v) H
        | none => none
       else evOps call rest (putD fr o.dst (.tup [])) H
     | some (.tup _) => evOps call rest (putD fr o.dst (.tup [])) H
     | _ => none
inductive AE where
 | nm
 | ex (id : Nat)
 | rt
def getResult (H : Heap) (fr : T AV) : ARes → Option AV
 | .tmp t => fr.get t
 | .cell1 t => match fr.get t with
   | some (.ptr b off) => match getN H b off 1 with | some [v] => some v | _ => none
   | _ => none
 | .cellN t n => match fr.get t with
   | some (.ptr b off) => (getN H b off n).map .agg
   | _ => none
def getResults (H : Heap) (fr : T AV) : List ARes → Option (List AV)
 | [] => some []
 | r :: rs => match getResult H fr r with
   | some v => match getResults H fr rs with | some vs => some (v :: vs) | none => none
   | none => none
def argFrame : Nat → List AV → T AV → T AV
 | _, [], fr => fr
 | i, v :: vs, fr => argFrame (i + 1) vs (fr.set i (some v))
abbrev AProg := T AFunc
noncomputable def callW (A : AProg) (ex : AC → T AV → Heap → Option (AE × T AV × Heap)) (f : Nat) (vs : List AV) (H : Heap) : Option (AV × Heap) :=
 match A.get f with
 | some fn => if vs.length = fn.nparams then match ex fn.code (argFrame 0 vs .e) H with
   | some (.ex _, _, _) => none
   | some (_, fr, H) => match getResults H fr fn.results with
     | some [v] => some (v, H)
     | some vs => some (.tup vs, H)
     | none => none
   | none => none else none
 | none => none
noncomputable def execB (A : AProg) (ih : AC → T AV → Heap → Option (AE × T AV × Heap)) (c : AC) (fr : T AV) (H : Heap) : Option (AE × T AV × Heap) :=
 match c with
 | .skip => some (.nm, fr, H)
 | .reg _ false ops => match evOps (callW A ih) ops fr H with
   | some (fr, H) => some (.nm, fr, H)
   | none => none
 | .reg _ true _ => none
 | .seq a b => match ih a fr H with
   | some (.nm, fr, H) => ih b fr H
   | r => r
 | .cond x a b => match evX fr x with
   | some (.v (.bool true)) => ih a fr H
   | some (.v (.bool false)) => ih b fr H
   | _ => none
 | .block id c => match ih c fr H with
   | some (.ex i, fr, H) => if i = id then some (.nm, fr, H) else some (.ex i, fr, H)
   | r => r
 | .loop c => match ih c fr H with
   | some (.nm, fr, H) => ih (.loop c) fr H
   | r => r
 | .exit id => some (.ex id, fr, H)
 | .ret => some (.rt, fr, H)
noncomputable def exec (A : AProg) : Nat → AC → T AV → Heap → Option (AE × T AV × Heap)
 | 0 => fun _ _ _ => none
 | n + 1 => execB A (exec A n)
noncomputable def callA (A : AProg) (n : Nat) (f : Nat) (vs : List AV) (H : Heap) : Option (AV × Heap) := callW A (exec A n) f vs H
def H0 : Heap := ⟨0, .e⟩
end Go.AM
namespace Go.AM
open Go.RowKit
theorem T.get_n0 {α : Type} (t : T α) : t.get 0 = t.val := by cases t <;> rfl
theorem T.get_even {α : Type} (t : T α) (k : Nat) (h : Nat.mod k 2 = 0) : t.get (k + 1) = t.left.get (Nat.div k 2) := by
 cases t with
 | e => rfl
 | n l v r => simp only [T.get, h, T.left]
theorem T.get_odd {α : Type} (t : T α) (k : Nat) (h : Nat.mod k 2 = 1) : t.get (k + 1) = t.right.get (Nat.div k 2) := by
 cases t with
 | e => rfl
 | n l v r => simp only [T.get, h, T.right]
theorem mod2 (k : Nat) : Nat.mod k 2 = 0 ∨ Nat.mod k 2 = 1 := by
 have : Nat.mod k 2 < 2 := Nat.mod_lt _ (by decide)
 omega
theorem div2 (k : Nat) : Nat.div k 2 = k / 2 := rfl
theorem mod2' (k : Nat) : Nat.mod k 2 = k % 2 := rfl
theorem T.get_setF {α : Type} (x : Option α) : ∀ (f : Nat) (t : T α) (k j : Nat), k < f → (T.setF x f t k).get j = if j = k then x else t.get j := by
 intro f
 induction f with
 | zero => intro t k j h; omega
 | succ f ih =>
   intro t k j h
   cases k with
   | zero =>
     cases j with
     | zero => rw [if_pos rfl, T.get_n0]; rfl
     | succ j =>
       rw [if_neg (by omega)]
       rcases mod2 j with e | e
       ·rw [T.get_even _ _ e, T.get_even _ _ e]; rfl
       ·rw [T.get_odd _ _ e, T.get_odd _ _ e]; rfl
   | succ k =>
     have hk : Nat.div k 2 < f := by rw [div2]; omega
     rcases mod2 k with ek | ek
     ·have e1 : T.setF x (f + 1) t (k + 1) = .n (T.setF x f t.left (Nat.div k 2)) t.val t.right := by
       simp only [T.setF, ek]
      rw [e1]
      cases j with
      | zero => rw [if_neg (by omega), T.get_n0, T.get_n0]; rfl
      | succ j =>
        rcases mod2 j with e | e
        ·rw [T.get_even _ _ e, T.get_even _ _ e]
         show (T.setF x f t.left (Nat.div k 2)).get (Nat.div j 2) = _
         rw [ih _ _ _ hk]
         have : (Nat.div j 2 = Nat.div k 2) ↔ (j + 1 = k + 1) := by
          rw [div2, div2]; rw [mod2'] at ek e; omega
         by_cases hjk : j + 1 = k + 1
         ·rw [if_pos hjk, if_pos (this.2 hjk)]
         ·rw [if_neg hjk, if_neg (fun h => hjk (this.1 h))]
        ·rw [T.get_odd _ _ e, T.get_odd _ _ e, if_neg (by rw [mod2'] at ek e; omega)]; rfl
     ·have e1 : T.setF x (f + 1) t (k + 1) = .n t.left t.val (T.setF x f t.right (Nat.div k 2)) := by
       simp only [T.setF, ek]
      rw [e1]
      cases j with
      | zero => rw [if_neg (by omega), T.get_n0, T.get_n0]; rfl
      | succ j =>
        rcases mod2 j with e | e
        ·rw [T.get_even _ _ e, T.get_even _ _ e, if_neg (by rw [mod2'] at ek e; omega)]; rfl
        ·rw [T.get_odd _ _ e, T.get_odd _ _ e]
         show (T.setF x f t.right (Nat.div k 2)).get (Nat.div j 2) = _
         rw [ih _ _ _ hk]
         have : (Nat.div j 2 = Nat.div k 2) ↔ (j + 1 = k + 1) := by
          rw [div2, div2]; rw [mod2'] at ek e; omega
         by_cases hjk : j + 1 = k + 1
         ·rw [if_pos hjk, if_pos (this.2 hjk)]
         ·rw [if_neg hjk, if_neg (fun h => hjk (this.1 h))]
theorem T.get_set {α : Type} (x : Option α) (t : T α) (k j : Nat) : (t.set k x).get j = if j = k then x else t.get j :=
 T.get_setF x (k + 1) t k j (by omega)
theorem T.get_e {α : Type} (k : Nat) : (T.e : T α).get k = none := by cases k <;> rfl
/-! ### places and values -/
structure Pl where
 r : Nat
 o : Nat
 n : Nat
 es : Nat
 /-- a map's place -/
 mp : Bool
abbrev Phi := Nat → Option Pl
inductive VRel (φ : Phi) : AV → Value → Prop where
 | v {x : Value} (h : x.oneCell' = true) : VRel φ (.v x) x
 | ptr {b off : Nat} {p : Pl} (h : φ b = some p) (hm : p.mp = false) : VRel φ (.ptr b off) (.pointer (some ⟨p.r, p.o + off, none⟩))
 | sl {b off len cap : Nat} {ex : Bool} {p : Pl} {a : Addr} {c : Nat} (h : φ b = some p) (h1 : len ≤ cap) (h2 : cap ≤ c) (h3 : ex = true → c = cap)
    (h4 : off + c * p.es ≤ p.n) (h5 : c = 0 ∨ a = ⟨p.r, p.o + off, none⟩) (hm : p.mp = false) : VRel φ (.sl b off len cap ex) (.slice (some a) len c)
 | agg {cs : List AV} {vs : Array Value} (h : cs.length = vs.size) (h1 : ∀ (i : Nat) (c : AV) (x : Value), cs[i]? = some c → vs[i]? = some x → VRel φ c x) (h2 : ∀ c ∈ cs, c.one = true) :
    VRel φ (.agg cs) (.agg vs)
 | tup {cs : List AV} {vs : Array Value} (h : cs.length = vs.size) (h1 : ∀ (i : Nat) (c : AV) (x : Value), cs[i]? = some c → vs[i]? = some x → VRel φ c x) : VRel φ (.tup cs) (.tuple vs)
 | fn {f : Nat} {cs : List AV} {vs : Array Value} (h : cs.length = vs.size) (h1 : ∀ (i : Nat) (c : AV) (x : Value), cs[i]? = some c → vs[i]? = some x → VRel φ c x) :
    VRel φ (.fn f cs) (.func (.func f) #[] vs)
 | ifc {t : Nat} {c : AV} {x : Value} (h : VRel φ c x) (ht : t < MAPT) : VRel φ (.ifc t c) (.iface t x)
 | mp {b : Nat} {p : Pl} (h : φ b = some p) (hm : p.mp = true) : VRel φ (.ifc MAPT (.ptr b 0)) (.map (some p.r))
 | bnd {f : Nat} {c : AV} {x : Value} (h : VRel φ c x) : VRel φ (.ifc (BNDT + f) c) (.func (.func f) #[x] #[])
 | mv {nm : String} {c : AV} {x : Value} (h : VRel φ c x) : VRel φ (.ifc MVT (.tup [.v (.string nm.toUTF8), c])) (.func (.method nm) #[x] #[])
def Le (φ φ' : Phi) : Prop := ∀ b p, φ b = some p → φ' b = some p
theorem Le.refl (φ : Phi) : Le φ φ := fun _ _ h => h
theorem Le.trans {a b c : Phi} (h : Le a b) (k : Le b c) : Le a c := fun i p e => k i p (h i p e)
theorem VRel.mono {φ φ' : Phi} (hle : Le φ φ') {a : AV} {x : Value} (h : VRel φ a x) : VRel φ' a x := by
 induction h with
 | v h => exact .v h
 | ptr h hm => exact .ptr (hle _ _ h) hm
 | sl h h1 h2 h3 h4 h5 hm => exact .sl (hle _ _ h) h1 h2 h3 h4 h5 hm
 | mp h hm => exact .mp (hle _ _ h) hm
 | agg h _ h2 ih => exact .agg h ih h2
 | tup h _ ih => exact .tup h ih
 | fn h _ ih => exact .fn h ih
 | ifc _ ht ih => exact .ifc ih ht
 | bnd _ ih => exact .bnd ih
 | mv _ ih => exact .mv ih
theorem VRel.one {φ : Phi} {a : AV} {x : Value} (h : VRel φ a x) (h1 : a.one = true) : x.oneCell' = true := by
 cases h <;> first | assumption | rfl | (simp [AV.one] at h1)
def CRel (φ : Phi) (cs : List AV) (xs : Array Value) : Prop :=
 cs.length = xs.size ∧ ∀ (i : Nat) (c : AV) (y : Value), cs[i]? = some c → xs[i]? = some y → VRel φ c y ∧ c.one = true
theorem CRel.one {φ : Phi} {cs : List AV} {xs : Array Value} (h : CRel φ cs xs) : ∀ c ∈ cs, c.one = true := by
 intro c hc
 obtain ⟨i, hi⟩ := List.getElem?_of_mem hc
 have hlt : i < cs.length := (List.getElem?_eq_some_iff.1 hi).1
 rw [h.1] at hlt
 exact (h.2 i c xs[i] hi (by simp [hlt])).2
theorem CRel.oneCell {φ : Phi} {cs : List AV} {xs : Array Value} (h : CRel φ cs xs) : ∀ x ∈ xs.toList, x.oneCell' = true := by
 intro x hx
 obtain ⟨i, hi⟩ := List.getElem?_of_mem hx
 have hlt : i < xs.toList.length := (List.getElem?_eq_some_iff.1 hi).1
 have hlt' : i < cs.length := by rw [h.1]; simpa using hlt
 have := h.2 i cs[i] x (by simp [hlt']) (by simpa using hi)
 exact this.1.one this.2
theorem VRel.cs {φ : Phi} {a : AV} {x : Value} (h : VRel φ a x) {cs : List AV} (ha : a.cs = some cs) : CRel φ cs x.cells := by
 have single : ∀ (a : AV) (x : Value), VRel φ a x → a.one = true → a.cs = some [a] → x.cells = #[x] → ∀ cs, a.cs = some cs → CRel φ cs x.cells := by
  intro a x h h1 e1 e2 cs hcs
  rw [e1] at hcs; cases hcs
  rw [e2]
  refine ⟨rfl, ?_⟩
  intro i c y hc hy
  cases i with
  | zero => simp at hc hy; subst hc; subst hy; exact ⟨h, h1⟩
  | succ i => simp at hc
 cases h with
 | v h => exact single _ _ (.v h) rfl rfl (by cases x <;> simp_all [Value.cells, Value.oneCell']) _ ha
 | ptr h hm => exact single _ _ (.ptr h hm) rfl rfl rfl _ ha
 | sl h h1 h2 h3 h4 h5 hm => exact single _ _ (.sl h h1 h2 h3 h4 h5 hm) rfl rfl rfl _ ha
 | mp h hm => exact single _ _ (.mp h hm) rfl rfl rfl _ ha
 | bnd h => exact single _ _ (.bnd h) rfl rfl rfl _ ha
 | mv h => exact single _ _ (.mv h) rfl rfl rfl _ ha
 | agg h h1 h2 => cases ha; exact ⟨h, fun i c y hc hy => ⟨h1 i c y hc hy, h2 c (List.mem_of_getElem? hc)⟩⟩
 | tup h h1 => cases ha
 | fn h h1 => exact single _ _ (.fn h h1) rfl rfl rfl _ ha
 | ifc h ht => exact single _ _ (.ifc h ht) rfl rfl rfl _ ha
theorem CRel.agg {φ : Phi} {cs : List AV} {xs : Array Value} (h : CRel φ cs xs) : VRel φ (.agg cs) (.agg xs) :=
 .agg h.1 (fun i c x hc hx => (h.2 i c x hc hx).1) h.one
theorem CRel.mono {φ φ' : Phi} (hle : Le φ φ') {cs : List AV} {xs : Array Value} (h : CRel φ cs xs) : CRel φ' cs xs :=
 ⟨h.1, fun i c y hc hy => ⟨(h.2 i c y hc hy).1.mono hle, (h.2 i c y hc hy).2⟩⟩
theorem CRel.at {φ : Phi} {cs : List AV} {xs : Array Value} (h : CRel φ cs xs) : ∀ (i : Nat) (c : AV), cs[i]? = some c → ∃ x : Value, xs[i]? = some x ∧ VRel φ c x ∧ c.one = true := by
 intro i c hc
 have hlt : i < cs.length := (List.getElem?_eq_some_iff.1 hc).1
 rw [h.1] at hlt
 exact ⟨xs[i], by simp [hlt], h.2 i c _ hc (by simp [hlt])⟩
def splice (cur : Array Value) (o : Nat) (vs : List Value) : Array Value := (cur.toList.take o ++ vs ++ cur.toList.drop (o + vs.length)).toArray
theorem splice_size {cur : Array Value} {o : Nat} {vs : List Value} (h : o + vs.length ≤ cur.size) : (splice cur o vs).size = cur.size := by
 simp [splice]; omega
theorem splice_get {cur : Array Value} {o : Nat} {vs : List Value} (h : o + vs.length ≤ cur.size) (j : Nat) :
 (splice cur o vs)[j]? = if o ≤ j ∧ j < o + vs.length then vs[j - o]? else cur[j]? := by
 have e : (splice cur o vs)[j]? = (cur.toList.take o ++ (vs ++ cur.toList.drop (o + vs.length)))[j]? := by simp [splice]
 have hl : (cur.toList.take o).length = o := by simp; omega
 rw [e]
 by_cases h1 : j < o
 ·rw [if_neg (by omega), List.getElem?_append_left (by omega), List.getElem?_take, if_pos h1]; simp
 ·rw [List.getElem?_append_right (by omega), hl]
  by_cases h2 : j < o + vs.length
  ·rw [if_pos (by omega), List.getElem?_append_left (by omega)]
  ·rw [if_neg (by omega), List.getElem?_append_right (by omega), List.getElem?_drop]
   have : o + vs.length + (j - o - vs.length) = j := by omega
   rw [this]; simp
theorem putAt_some : ∀ {cs : List AV} {o : Nat} {vs cs' : List AV}, putAt cs o vs = some cs' →
 o + vs.length ≤ cs.length ∧ cs'.length = cs.length ∧ ∀ j, cs'[j]? = if o ≤ j ∧ j < o + vs.length then vs[j - o]? else cs[j]?
 | cs, 0, [], cs', h => by
   have : cs' = cs := by cases cs <;> simpa [putAt] using h.symm
   subst this
   refine ⟨by simp, rfl, fun j => ?_⟩
   rw [if_neg (by simp)]
 | [], 0, _ :: _, cs', h => by simp [putAt] at h
 | [], o + 1, vs, cs', h => by simp [putAt] at h
 | c :: cs, 0, v :: vs, cs', h => by
   simp only [putAt, Option.map_eq_some_iff] at h
   obtain ⟨r, hr, rfl⟩ := h
   obtain ⟨h1, h2, h3⟩ := putAt_some hr
   refine ⟨by simp at h1 ⊢; omega, by simp [h2], fun j => ?_⟩
   cases j with
   | zero => simp
   | succ j =>
     rw [List.getElem?_cons_succ, h3 j]
     by_cases hj : j < vs.length
     ·rw [if_pos (by omega), if_pos (by simp; omega)]; simp
     ·rw [if_neg (by omega), if_neg (by simp; omega)]; simp
 | c :: cs, o + 1, vs, cs', h => by
   simp only [putAt, Option.map_eq_some_iff] at h
   obtain ⟨r, hr, rfl⟩ := h
   obtain ⟨h1, h2, h3⟩ := putAt_some hr
   refine ⟨by simp; omega, by simp [h2], fun j => ?_⟩
   cases j with
   | zero => rw [if_neg (by omega)]; rfl
   | succ j =>
     rw [List.getElem?_cons_succ, h3 j]
     by_cases hj : o ≤ j ∧ j < o + vs.length
     ·rw [if_pos hj, if_pos (by omega)]; congr 1; omega
     ·rw [if_neg hj, if_neg (by omega)]; rfl
theorem CRel.put {φ : Phi} {cs cs' vs : List AV} {xs ys : Array Value} {o : Nat} (h : CRel φ cs xs) (hv : CRel φ vs ys) (hp : putAt cs o vs = some cs') :
 CRel φ cs' (splice xs o ys.toList) ∧ o + ys.size ≤ xs.size := by
 obtain ⟨h1, h2, h3⟩ := putAt_some hp
 have hle : o + ys.toList.length ≤ xs.size := by have := h.1; have := hv.1; simp; omega
 refine ⟨⟨by rw [h2, splice_size hle, h.1], ?_⟩, by simpa using hle⟩
 intro i c y hc hy
 rw [h3] at hc
 rw [splice_get hle] at hy
 have hl : ys.toList.length = vs.length := by rw [hv.1]; simp
 rw [hl] at hy
 by_cases hi : o ≤ i ∧ i < o + vs.length
 ·rw [if_pos hi] at hc hy
  exact hv.2 _ c y hc (by simpa using hy)
 ·rw [if_neg hi] at hc hy
  exact h.2 i c y hc hy
/-! ### blocks and heaps -/
structure BRel (B : Nat) (φ : Phi) (w : World) (blk : Blk) (p : Pl) : Prop where
 es : blk.es = p.es
 ex : ∃ cur e fz, w.heap[p.r]? = some (.cells cur e fz) ∧ cur.size = p.o + p.n ∧ blk.cells.length ≤ p.n ∧
  (∀ (i : Nat) (c : AV), blk.cells[i]? = some c → ∃ x : Value, cur[p.o + i]? = some x ∧ VRel φ c x ∧ c.one = true) ∧
  (blk.wr = true → B ≤ p.r ∧ (cur.size ≤ fz.1 ∨ fz.2 = fz.1))
def mapE : List (Int × Int) → Nat → List MapEntry
 | [], _ => []
 | e :: r, i => ⟨.int .i64 e.1, .int .i64 e.2, i⟩ :: mapE r (i + 1)
structure MRel (B : Nat) (w : World) (blk : Blk) (p : Pl) : Prop where
 wr : blk.wr = true
 low : B ≤ p.r
 ex : ∃ l : List (Int × Int), w.heap[p.r]? = some (.map (mapE l 0).toArray l.length) ∧ blk.cells = mapC l
structure HRel (B : Nat) (φ : Phi) (H : Heap) (w : World) : Prop where
 blk : ∀ b blk p, H.blks.get b = some blk → φ b = some p → p.mp = false → BRel B φ w blk p
 mpr : ∀ b blk p, H.blks.get b = some blk → φ b = some p → p.mp = true → MRel B w blk p
 sep : ∀ b blk b' blk' p p', H.blks.get b = some blk → H.blks.get b' = some blk' → b ≠ b' → blk.wr = true → blk.mate ≠ some b' → φ b = some p → φ b' = some p' → p.r ≠ p'.r
 size : B ≤ w.heap.size
 lt : ∀ b, H.next ≤ b → H.blks.get b = none
def Owned (φ : Phi) (H : Heap) (r : Nat) : Prop := ∃ b blk p, H.blks.get b = some blk ∧ blk.wr = true ∧ φ b = some p ∧ p.r = r
structure Step (B : Nat) (φ : Phi) (H : Heap) (w : World) (φ' : Phi) (H' : Heap) (w' : World) : Prop where
 le : Le φ φ'
 dom : ∀ b p, φ' b = some p → φ b = some p ∨ (H.next ≤ b ∧ b < H'.next)
 rel : HRel B φ' H' w'
 next : H.next ≤ H'.next
 os : w'.os = w.os
 tape : w'.tape = w.tape
 output : w'.output = w.output
 size : w.heap.size ≤ w'.heap.size
 rows : ∀ r, r < w.heap.size → ¬ Owned φ H r → w'.heap[r]? = w.heap[r]?
 own : ∀ r, Owned φ' H' r → Owned φ H r ∨ w.heap.size ≤ r
theorem Step.refl {B : Nat} {φ : Phi} {H : Heap} {w : World} (h : HRel B φ H w) : Step B φ H w φ H w :=
 ⟨.refl _, fun _ _ h => .inl h, h, Nat.le_refl _, rfl, rfl, rfl, Nat.le_refl _, fun _ _ _ => rfl, fun _ h => .inl h⟩
theorem Step.trans {B : Nat} {φ φ1 φ2 : Phi} {H H1 H2 : Heap} {w w1 w2 : World} (h : Step B φ H w φ1 H1 w1) (k : Step B φ1 H1 w1 φ2 H2 w2) : Step B φ H w φ2 H2 w2 where
 le := h.le.trans k.le
 dom := fun b p e => by
  rcases k.dom b p e with e | ⟨e1, e2⟩
  ·rcases h.dom b p e with e | ⟨e1, e2⟩
   ·exact .inl e
   ·exact .inr ⟨e1, Nat.lt_of_lt_of_le e2 k.next⟩
  ·exact .inr ⟨Nat.le_trans h.next e1, e2⟩
 rel := k.rel
 next := Nat.le_trans h.next k.next
 os := k.os.trans h.os
 tape := k.tape.trans h.tape
 output := k.output.trans h.output
 size := Nat.le_trans h.size k.size
 rows := fun r hr hn => (k.rows r (Nat.lt_of_lt_of_le hr h.size) (fun ho => by rcases h.own r ho with ho | ho; exact hn ho; omega)).trans (h.rows r hr hn)
 own := fun r ho => by
  rcases k.own r ho with ho | ho
  ·exact h.own r ho
  ·exact .inr (Nat.le_trans h.size ho)
theorem HRel.of_heap {B : Nat} {φ : Phi} {H : Heap} {w w' : World} (h : HRel B φ H w) (e : w'.heap = w.heap) : HRel B φ H w' where
 blk := fun b blk p hb hp hm => by
  obtain ⟨es, cur, e', fz, h1, h2⟩ := h.blk b blk p hb hp hm
  exact ⟨es, cur, e', fz, by rw [e]; exact h1, h2⟩
 mpr := fun b blk p hb hp hm => by
  obtain ⟨a, c, l, h1, h2⟩ := h.mpr b blk p hb hp hm
  exact ⟨a, c, l, by rw [e]; exact h1, h2⟩
 sep := h.sep
 size := by rw [e]; exact h.size
 lt := h.lt
theorem Step.drew {B : Nat} {φ : Phi} {H : Heap} {w : World} (h : HRel B φ H w) (k : Nat) : Step B φ H w φ H { w with drawn := k } :=
 ⟨.refl _, fun _ _ h => .inl h, h.of_heap rfl, Nat.le_refl _, rfl, rfl, rfl, Nat.le_refl _, fun _ _ _ => rfl, fun _ h => .inl h⟩
theorem HRel.row_lt {B : Nat} {φ : Phi} {H : Heap} {w : World} (h : HRel B φ H w) {b : Nat} {blk : Blk} {p : Pl} (hb : H.blks.get b = some blk) (hp : φ b = some p) : p.r < w.heap.size := by
 cases hm : p.mp with
 | false =>
   obtain ⟨_, cur, e, fz, h1, _⟩ := h.blk b blk p hb hp hm
   exact (Array.getElem?_eq_some_iff.1 h1).1
 | true =>
   obtain ⟨_, c, l, h1, _⟩ := h.mpr b blk p hb hp hm
   exact (Array.getElem?_eq_some_iff.1 h1).1
theorem HRel.nomap {B : Nat} {φ : Phi} {H : Heap} {w : World} (h : HRel B φ H w) {b : Nat} {blk : Blk} {p : Pl} (hb : H.blks.get b = some blk) (hp : φ b = some p) {cur : Array Value} {e : TypeId} {fz : Nat × Nat} (hr : w.heap[p.r]? = some (.cells cur e fz)) : p.mp = false := by
 cases hm : p.mp with
 | false => rfl
 | true =>
   obtain ⟨_, c, l, h1, _⟩ := h.mpr b blk p hb hp hm
   rw [hr] at h1; cases h1
theorem Step.alloc' {B : Nat} {φ : Phi} {H H' : Heap} {w : World} (h : HRel B φ H w) (es : Nat) (m : Option Nat) (cs : List AV) (hn : H'.next = H.next + 1)
 (hget : ∀ b, H'.blks.get b = if b = H.next then some ⟨cs, true, m, es⟩ else H.blks.get b) (cur : Array Value) (e : TypeId) (fz : Nat × Nat)
 (hφ : φ H.next = none) (hlen : cs.length ≤ cur.size) (hc : ∀ (i : Nat) (c : AV), cs[i]? = some c → ∃ x : Value, cur[i]? = some x ∧ VRel φ c x ∧ c.one = true)
 (hfz : cur.size ≤ fz.1 ∨ fz.2 = fz.1) (w' : World) (hw : w'.heap = w.heap.push (.cells cur e fz)) (h1 : w'.os = w.os) (h2 : w'.tape = w.tape) (h3 : w'.output = w.output) :
 Step B φ H w (fun b => if b = H.next then some ⟨w.heap.size, 0, cur.size, es, false⟩ else φ b) H' w' := by
 have hle : Le φ (fun b => if b = H.next then some ⟨w.heap.size, 0, cur.size, es, false⟩ else φ b) := by
  intro b p hp
  by_cases hb : b = H.next
  ·subst hb; rw [hφ] at hp; cases hp
  ·simp only [hb, if_false]; exact hp
 have hold : ∀ k, k < w.heap.size → w'.heap[k]? = w.heap[k]? := fun k hk => by rw [hw, Array.getElem?_push, if_neg (by omega)]
 have hnew : w'.heap[w.heap.size]? = some (.cells cur e fz) := by rw [hw, Array.getElem?_push, if_pos rfl]
 have hrow : ∀ b blk p, H.blks.get b = some blk → φ b = some p → p.r < w.heap.size := fun b blk p hb hp => h.row_lt hb hp
 refine ⟨hle, ?_, ?_, by omega, h1, h2, h3, by rw [hw]; simp, fun r hr _ => hold r hr, ?_⟩
 ·intro b p hp
  by_cases hb : b = H.next
  ·exact .inr ⟨by omega, by omega⟩
  ·simp only [hb, if_false] at hp; exact .inl hp
 ·refine ⟨?_, fun b blk p hb hp hm => ?_, ?_, by rw [hw]; have := h.size; simp; omega, ?_⟩
  rotate_left
  ·rw [hget] at hb
   by_cases hbn : b = H.next
   ·simp only [hbn, if_true, Option.some.injEq] at hp
    subst hp; cases hm
   ·simp only [hbn, if_false] at hb hp
    obtain ⟨a, c, l, h1, h2⟩ := h.mpr b blk p hb hp hm
    exact ⟨a, c, l, by rw [hold _ (hrow b blk p hb hp)]; exact h1, h2⟩
  rotate_right
  ·intro b blk p hb hp hm
   rw [hget] at hb
   by_cases hbn : b = H.next
   ·simp only [hbn, if_true, Option.some.injEq] at hb hp
    subst hb; subst hp
    refine ⟨rfl, cur, e, fz, hnew, by simp, hlen, ?_, fun _ => ⟨h.size, hfz⟩⟩
    intro i c hic
    obtain ⟨x, h1, h2, h3⟩ := hc i c hic
    exact ⟨x, by simpa using h1, h2.mono hle, h3⟩
   ·simp only [hbn, if_false] at hb hp
    obtain ⟨es', cur', e', fz', g1, g2, g3, g4, g5⟩ := h.blk b blk p hb hp hm
    refine ⟨es', cur', e', fz', by rw [hold _ (hrow b blk p hb hp)]; exact g1, g2, g3, ?_, g5⟩
    intro i c hic
    obtain ⟨x, h1, h2, h3⟩ := g4 i c hic
    exact ⟨x, h1, h2.mono hle, h3⟩
  ·intro b blk b' blk' p p' hb hb' hne hwr hm hp hp'
   rw [hget] at hb hb'
   by_cases hbn : b = H.next
   ·by_cases hbn' : b' = H.next
    ·exact absurd (hbn.trans hbn'.symm) hne
    ·simp only [hbn, if_true, Option.some.injEq] at hp
     simp only [hbn', if_false] at hb' hp'
     subst hp
     have := hrow b' blk' p' hb' hp'
     simp only; omega
   ·simp only [hbn, if_false] at hb hp
    by_cases hbn' : b' = H.next
    ·simp only [hbn', if_true, Option.some.injEq] at hp'
     subst hp'
     have := hrow b blk p hb hp
     simp only; omega
    ·simp only [hbn', if_false] at hb' hp'
     exact h.sep b blk b' blk' p p' hb hb' hne hwr hm hp hp'
  ·intro b hb
   rw [hget, if_neg (by omega)]
   exact h.lt b (by omega)
 ·rintro r ⟨b, blk, p, hb, hwr, hp, rfl⟩
  rw [hget] at hb
  by_cases hbn : b = H.next
  ·simp only [hbn, if_true, Option.some.injEq] at hp
   subst hp
   exact .inr (Nat.le_refl _)
  ·simp only [hbn, if_false] at hb hp
   exact .inl ⟨b, blk, p, hb, hwr, hp, rfl⟩
theorem Step.alloc {B : Nat} {φ : Phi} {H : Heap} {w : World} (h : HRel B φ H w) (es : Nat) (cs : List AV) (cur : Array Value) (e : TypeId) (fz : Nat × Nat)
 (hφ : φ H.next = none) (hlen : cs.length ≤ cur.size) (hc : ∀ (i : Nat) (c : AV), cs[i]? = some c → ∃ x : Value, cur[i]? = some x ∧ VRel φ c x ∧ c.one = true)
 (hfz : cur.size ≤ fz.1 ∨ fz.2 = fz.1) (w' : World) (hw : w'.heap = w.heap.push (.cells cur e fz)) (h1 : w'.os = w.os) (h2 : w'.tape = w.tape) (h3 : w'.output = w.output) :
 Step B φ H w (fun b => if b = H.next then some ⟨w.heap.size, 0, cur.size, es, false⟩ else φ b) (H.alloc es cs) w' :=
 Step.alloc' h es none cs rfl (fun _ => T.get_set _ _ _ _) cur e fz hφ hlen hc hfz w' hw h1 h2 h3
theorem Heap.get_kill (H : Heap) (m : Option Nat) (b : Nat) : (H.kill m).blks.get b = if m = some b then none else H.blks.get b := by
 cases m with
 | none => rfl
 | some m =>
   show (H.blks.set m none).get b = _
   rw [T.get_set]
   by_cases h : b = m
   ·subst h; simp
   ·rw [if_neg h, if_neg (by simpa using fun e => h e.symm)]
theorem Step.sub {B : Nat} {φ : Phi} {H H' : Heap} {w : World} (h : HRel B φ H w) (hn : H'.next = H.next)
 (hs : ∀ b blk', H'.blks.get b = some blk' → ∃ blk, H.blks.get b = some blk ∧ blk'.cells = blk.cells ∧ blk'.wr = blk.wr ∧ blk'.es = blk.es ∧
   (∀ b', b' ≠ b → (H'.blks.get b').isSome → blk'.mate ≠ some b' → blk.mate ≠ some b')) : Step B φ H w φ H' w := by
 refine ⟨.refl _, fun _ _ h => .inl h, ⟨?_, fun b blk' p hb hp hm => ?_, ?_, h.size, ?_⟩, by omega, rfl, rfl, rfl, Nat.le_refl _, fun _ _ _ => rfl, ?_⟩
 rotate_left
 ·obtain ⟨blk, g, e1, e2, e3, _⟩ := hs b blk' hb
  obtain ⟨a, c, l, h1, h2⟩ := h.mpr b blk p g hp hm
  exact ⟨e2.trans a, c, l, h1, e1.trans h2⟩
 rotate_right
 ·intro b blk' p hb hp hm
  obtain ⟨blk, g, e1, e2, e3, _⟩ := hs b blk' hb
  obtain ⟨es, cur, e, fz, g1, g2, g3, g4, g5⟩ := h.blk b blk p g hp hm
  exact ⟨e3.trans es, cur, e, fz, g1, g2, by rw [e1]; exact g3, by rw [e1]; exact g4, by rw [e2]; exact g5⟩
 ·intro b blk' b' blk'' p p' hb hb' hne hw hm hp hp'
  obtain ⟨blk, g, _, e2, _, e4⟩ := hs b blk' hb
  obtain ⟨blk2, g', _⟩ := hs b' blk'' hb'
  exact h.sep b blk b' blk2 p p' g g' hne (e2 ▸ hw) (e4 b' (Ne.symm hne) (by rw [hb']; rfl) hm) hp hp'
 ·intro b hb
  cases hq : H'.blks.get b with
  | none => rfl
  | some blk' =>
    obtain ⟨blk, g, _⟩ := hs b blk' hq
    rw [h.lt b (by omega)] at g
    cases g
 ·rintro r ⟨b, blk', p, hb, hw, hp, rfl⟩
  obtain ⟨blk, g, _, e2, _⟩ := hs b blk' hb
  exact .inl ⟨b, blk, p, g, e2 ▸ hw, hp, rfl⟩
def Alone (φ : Phi) (H : Heap) (b : Nat) (p : Pl) : Prop := ∀ b' blk' p', H.blks.get b' = some blk' → b' ≠ b → φ b' = some p' → p'.r ≠ p.r
theorem Step.put {B : Nat} {φ : Phi} {H H' : Heap} {w : World} (h : HRel B φ H w) {b : Nat} {blk : Blk} {p : Pl} (hb : H.blks.get b = some blk) (hp : φ b = some p) (hwr : blk.wr = true)
 (ha : Alone φ H b p) (cs : List AV) (cur cur' : Array Value) (e : TypeId) (fz : Nat × Nat) (hr : w.heap[p.r]? = some (.cells cur e fz)) (hsz : cur'.size = cur.size)
 (hl : cs.length ≤ p.n) (hc : ∀ (i : Nat) (c : AV), cs[i]? = some c → ∃ x : Value, cur'[p.o + i]? = some x ∧ VRel φ c x ∧ c.one = true)
 (hn : H'.next = H.next) (hget : ∀ j, H'.blks.get j = if j = b then some ⟨cs, true, blk.mate, blk.es⟩ else H.blks.get j) : Step B φ H w φ H' (w.setRow p.r cur') := by
 have hheap : ∀ k, k ≠ p.r → (w.setRow p.r cur').heap[k]? = w.heap[k]? := fun k hk => by
  simp only [World.setRow, Array.getElem?_modify]
  rw [if_neg (by omega)]
 have hnew := setRow_heap w p.r cur cur' e fz hr
 have hbm := h.nomap hb hp hr
 obtain ⟨es0, cur0, e0, fz0, g1, g2, _, _, g5⟩ := h.blk b blk p hb hp hbm
 rw [hr] at g1
 simp only [Option.some.injEq, Obj.cells.injEq] at g1
 obtain ⟨rfl, rfl, rfl⟩ := g1
 refine ⟨.refl _, fun _ _ h => .inl h, ⟨?_, fun j blk' p' hj hp' hm' => ?_, ?_, by show B ≤ (w.setRow p.r cur').heap.size; simp [World.setRow]; exact h.size, ?_⟩, by omega, rfl, rfl, rfl, by simp [World.setRow], ?_, ?_⟩
 rotate_left
 ·rw [hget] at hj
  by_cases hjb : j = b
  ·subst hjb
   rw [hp] at hp'
   cases hp'
   rw [hbm] at hm'; cases hm'
  ·simp only [hjb, if_false] at hj
   obtain ⟨a, c, l, h1, h2⟩ := h.mpr j blk' p' hj hp' hm'
   exact ⟨a, c, l, by rw [hheap _ (ha j blk' p' hj hjb hp')]; exact h1, h2⟩
 rotate_right
 ·intro j blk' p' hj hp' hm'
  rw [hget] at hj
  by_cases hjb : j = b
  ·subst hjb
   simp only [if_true, Option.some.injEq] at hj
   subst hj
   rw [hp] at hp'
   cases hp'
   exact ⟨es0, cur', e, fz, hnew, by omega, hl, hc, fun _ => by have := g5 hwr; rw [hsz]; exact this⟩
  ·simp only [hjb, if_false] at hj
   obtain ⟨es, c2, e2, f2, k1, k2⟩ := h.blk j blk' p' hj hp' hm'
   exact ⟨es, c2, e2, f2, by rw [hheap _ (ha j blk' p' hj hjb hp')]; exact k1, k2⟩
 ·intro j blk1 j' blk2 p1 p2 hj hj' hne hw hm h1 h2
  rw [hget] at hj hj'
  by_cases hjb : j = b
  ·subst hjb
   rw [hp] at h1; cases h1
   simp only [Ne.symm hne, if_false] at hj'
   exact fun e => ha j' blk2 p2 hj' (Ne.symm hne) h2 e.symm
  ·simp only [hjb, if_false] at hj
   by_cases hjb' : j' = b
   ·subst hjb'
    rw [hp] at h2; cases h2
    exact ha j blk1 p1 hj hjb h1
   ·simp only [hjb', if_false] at hj'
    exact h.sep j blk1 j' blk2 p1 p2 hj hj' hne hw hm h1 h2
 ·intro j hj
  rw [hget]
  by_cases hjb : j = b
  ·subst hjb; rw [h.lt j (by omega)] at hb; cases hb
  ·rw [if_neg hjb]; exact h.lt j (by omega)
 ·intro r _ hno
  exact hheap r (fun e => hno ⟨b, blk, p, hb, hwr, hp, e.symm⟩)
 ·rintro r ⟨j, blk', p', hj, hw, hp', rfl⟩
  rw [hget] at hj
  by_cases hjb : j = b
  ·subst hjb; exact .inl ⟨j, blk, p', hb, hwr, hp', rfl⟩
  ·simp only [hjb, if_false] at hj
   exact .inl ⟨j, blk', p', hj, hw, hp', rfl⟩
theorem Step.alias {B : Nat} {φ : Phi} {H H' : Heap} {w : World} (h : HRel B φ H w) {b : Nat} {blk : Blk} {p : Pl} (hb : H.blks.get b = some blk) (hp : φ b = some p) (hwr : blk.wr = true)
 (ha : Alone φ H b p) (hm : blk.mate = some H.next) (off : Nat) (cs : List AV) (cur : Array Value) (e : TypeId) (fz : Nat × Nat) (hr : w.heap[p.r]? = some (.cells cur e fz))
 (hφ : φ H.next = none) (hoff : off ≤ p.n) (hl : off + cs.length ≤ p.n) (hc : ∀ (i : Nat) (c : AV), cs[i]? = some c → ∃ x : Value, cur[p.o + off + i]? = some x ∧ VRel φ c x ∧ c.one = true)
 (hn : H'.next = H.next + 1) (hget : ∀ j, H'.blks.get j = if j = H.next then some ⟨cs, true, some b, blk.es⟩ else H.blks.get j) :
 Step B φ H w (fun j => if j = H.next then some ⟨p.r, p.o + off, p.n - off, p.es, false⟩ else φ j) H' w := by
 have hle : Le φ (fun j => if j = H.next then some ⟨p.r, p.o + off, p.n - off, p.es, false⟩ else φ j) := by
  intro j q hq
  by_cases hj : j = H.next
  ·subst hj; rw [hφ] at hq; cases hq
  ·simp only [hj, if_false]; exact hq
 have hbn : b ≠ H.next := fun e => by subst e; rw [h.lt _ (Nat.le_refl _)] at hb; cases hb
 have hbm := h.nomap hb hp hr
 obtain ⟨es0, cur0, e0, fz0, g1, g2, _, _, g5⟩ := h.blk b blk p hb hp hbm
 rw [hr] at g1
 simp only [Option.some.injEq, Obj.cells.injEq] at g1
 obtain ⟨rfl, rfl, rfl⟩ := g1
 have hmpr : ∀ j blk' q, H'.blks.get j = some blk' → (if j = H.next then some ⟨p.r, p.o + off, p.n - off, p.es, false⟩ else φ j) = some q → q.mp = true → MRel B w blk' q := fun j blk' q hj hq hm' => by
  rw [hget] at hj
  by_cases hjn : j = H.next
  ·simp only [hjn, if_true, Option.some.injEq] at hq
   subst hq; cases hm'
  ·simp only [hjn, if_false] at hj hq
   obtain ⟨a, c, l, h1, h2⟩ := h.mpr j blk' q hj hq hm'
   exact ⟨a, c, l, h1, h2⟩
 refine ⟨hle, ?_, ⟨?_, hmpr, ?_, h.size, ?_⟩, by omega, rfl, rfl, rfl, Nat.le_refl _, fun _ _ _ => rfl, ?_⟩
 ·intro j q hq
  by_cases hj : j = H.next
  ·exact .inr ⟨by omega, by omega⟩
  ·simp only [hj, if_false] at hq; exact .inl hq
 ·intro j blk' q hj hq hm'
  rw [hget] at hj
  by_cases hjn : j = H.next
  ·simp only [hjn, if_true, Option.some.injEq] at hj hq
   subst hj; subst hq
   refine ⟨es0, cur, e, fz, hr, by simp only; omega, by simp only; omega, ?_, fun _ => g5 hwr⟩
   intro i c hic
   obtain ⟨x, k1, k2, k3⟩ := hc i c hic
   exact ⟨x, k1, k2.mono hle, k3⟩
  ·simp only [hjn, if_false] at hj hq
   obtain ⟨es, c2, e2, f2, k1, k2, k3, k4, k5⟩ := h.blk j blk' q hj hq hm'
   refine ⟨es, c2, e2, f2, k1, k2, k3, ?_, k5⟩
   intro i c hic
   obtain ⟨x, m1, m2, m3⟩ := k4 i c hic
   exact ⟨x, m1, m2.mono hle, m3⟩
 ·intro j blk1 j' blk2 p1 p2 hj hj' hne hw hmt h1 h2
  rw [hget] at hj hj'
  by_cases hjn : j = H.next
  ·simp only [hjn, if_true, Option.some.injEq] at hj h1
   subst hj; subst h1
   have hjn' : j' ≠ H.next := fun e => hne (hjn.trans e.symm)
   simp only [hjn', if_false] at hj' h2
   exact fun e => ha j' blk2 p2 hj' (fun e => hmt (by rw [e])) h2 e.symm
  ·simp only [hjn, if_false] at hj h1
   by_cases hjn' : j' = H.next
   ·simp only [hjn', if_true, Option.some.injEq] at h2
    subst h2
    have hjb : j ≠ b := fun e => by
     subst e
     rw [hb] at hj; cases hj
     exact hmt (by rw [hm, hjn'])
    exact ha j blk1 p1 hj hjb h1
   ·simp only [hjn', if_false] at hj' h2
    exact h.sep j blk1 j' blk2 p1 p2 hj hj' hne hw hmt h1 h2
 ·intro j hj
  rw [hget, if_neg (by omega)]
  exact h.lt j (by omega)
 ·rintro r ⟨j, blk', q, hj, hw, hq, rfl⟩
  rw [hget] at hj
  by_cases hjn : j = H.next
  ·simp only [hjn, if_true, Option.some.injEq] at hq
   subst hq
   exact .inl ⟨b, blk, p, hb, hwr, hp, rfl⟩
  ·simp only [hjn, if_false] at hj hq
   exact .inl ⟨j, blk', q, hj, hw, hq, rfl⟩
def markO (o : Obj) (n : Nat) : Obj := match o with
 | .cells c elem (lo, hi) => .cells c elem (if lo == hi then (n, n + 1) else (min lo n, max hi (n + 1)))
 | o => o
theorem Step.marks {B : Nat} {φ : Phi} {H : Heap} {w : World} (h : HRel B φ H w) {b : Nat} {blk : Blk} {p : Pl} (hb : H.blks.get b = some blk) (hp : φ b = some p) (hwr : blk.wr = true) {cur : Array Value} {e : TypeId} {fz : Nat × Nat}
 (hr : w.heap[p.r]? = some (.cells cur e fz)) (w' : World) (hw : w'.heap = w.heap.modify p.r (markO · cur.size)) (h1 : w'.os = w.os) (h2 : w'.tape = w.tape) (h3 : w'.output = w.output) : Step B φ H w φ H w' := by
 have hold : ∀ k, k ≠ p.r → w'.heap[k]? = w.heap[k]? := fun k hk => by
  rw [hw, Array.getElem?_modify, if_neg (fun c => hk c.symm)]
 have hnew : ∃ fz', w'.heap[p.r]? = some (.cells cur e fz') ∧ ((cur.size ≤ fz.1 ∨ fz.2 = fz.1) → (cur.size ≤ fz'.1 ∨ fz'.2 = fz'.1)) := by
  obtain ⟨lo, hi⟩ := fz
  refine ⟨if lo == hi then (cur.size, cur.size + 1) else (min lo cur.size, max hi (cur.size + 1)), by rw [hw, Array.getElem?_modify, if_pos rfl, hr]; rfl, fun k => ?_⟩
  by_cases c : lo = hi
  ·rw [if_pos (by simpa using c)]; exact .inl (Nat.le_refl _)
  ·rw [if_neg (by simpa using c)]
   rcases k with k | k
   ·exact .inl (by show cur.size ≤ min lo cur.size; have : cur.size ≤ lo := k; omega)
   ·exact absurd (show hi = lo from k).symm c
 obtain ⟨fz', hn1, hn2⟩ := hnew
 refine ⟨.refl _, fun _ _ k => .inl k, ⟨fun b' blk' p' k1 k2 km => ?_, fun b' blk' p' k1 k2 km => ?_, h.sep, by rw [hw, Array.size_modify]; exact h.size, h.lt⟩, Nat.le_refl _, h1, h2, h3, by rw [hw, Array.size_modify]; exact Nat.le_refl _, fun r _ ho => ?_, fun r ho => .inl ho⟩
 ·obtain ⟨es, cur1, e1, fz1, q1, q2, q3, q4, q5⟩ := h.blk b' blk' p' k1 k2 km
  by_cases c : p'.r = p.r
  ·rw [c, hr] at q1
   cases q1
   exact ⟨es, cur, e, fz', by rw [c]; exact hn1, q2, q3, q4, fun k => ⟨(q5 k).1, hn2 (q5 k).2⟩⟩
  ·exact ⟨es, cur1, e1, fz1, by rw [hold _ c]; exact q1, q2, q3, q4, q5⟩
 ·obtain ⟨a, c, l, q1, q2⟩ := h.mpr b' blk' p' k1 k2 km
  refine ⟨a, c, l, ?_, q2⟩
  by_cases cc : p'.r = p.r
  ·rw [cc, hr] at q1; cases q1
  ·rw [hold _ cc]; exact q1
 ·exact hold r (fun c => ho ⟨b, blk, p, hb, hwr, hp, c.symm⟩)
end Go.AM
namespace Go.AM
open Go.RowKit
def FRel (φ : Phi) (fr : T AV) (tmps : Array Value) : Prop := ∀ t v, fr.get t = some v → ∃ x, tmps[t]? = some x ∧ VRel φ v x
theorem FRel.mono {φ φ' : Phi} (h : Le φ φ') {fr : T AV} {tmps : Array Value} (hf : FRel φ fr tmps) : FRel φ' fr tmps :=
 fun t v e => let ⟨x, h1, h2⟩ := hf t v e; ⟨x, h1, h2.mono h⟩
theorem plain1_one {x : Value} (h : Value.plain1 x = true) : x.oneCell' = true := by
 cases x <;> first | rfl | simp [Value.plain1] at h
theorem vrel_plain (φ : Phi) (cs : Array Value) (h : cs.all Value.plain1 = true) : VRel φ (.agg (cs.toList.map .v)) (.agg cs) := by
 have h' : ∀ x ∈ cs.toList, Value.plain1 x = true := by
  intro x hx
  rw [Array.all_eq_true_iff_forall_mem] at h
  exact h x (by simpa using hx)
 refine .agg (by simp) ?_ ?_
 ·intro i c x hc hx
  rw [List.getElem?_map] at hc
  have hx' : cs.toList[i]? = some x := by simpa using hx
  rw [hx'] at hc
  simp only [Option.map_some, Option.some.injEq] at hc
  subst hc
  exact .v (plain1_one (h' x (List.mem_of_getElem? hx')))
 ·intro c hc
  simp only [List.mem_map] at hc
  obtain ⟨x, _, rfl⟩ := hc
  rfl
theorem const_sound {φ : Phi} {x : Value} {v : AV} (h : constOf x = some v) : VRel φ v x := by
 unfold constOf at h
 split at h
 ·split at h
  ·rename_i hp
   cases h
   exact vrel_plain φ _ hp
  ·cases h
 ·split at h
  ·rename_i hp
   cases h
   exact .v (plain1_one hp)
  ·cases h
theorem ev_sound {φ : Phi} {fr : T AV} {a : Act} (hf : FRel φ fr a.tmps) {x : Operand} {ax : AX} (hc : cX x = some ax) {v : AV} (he : evX fr ax = some v) : VRel φ v (a.eval x) := by
 cases x with
 | tmp t =>
   cases hc
   obtain ⟨y, h1, h2⟩ := hf t v he
   simpa [Act.eval, Array.getD_eq_getD_getElem?, h1] using h2
 | const c =>
   simp only [cX, Option.map_eq_some_iff] at hc
   obtain ⟨av, h1, rfl⟩ := hc
   cases he
   exact const_sound h1
 | func f =>
   cases hc
   cases he
   exact .fn rfl (fun i c x h => by simp at h)
 | global g => cases hc
section
variable {P : Program} {B : Nat} {φ : Phi} {H H' : Heap} {w : World} {fr : T AV} {a : Act} {o : Oper} {ao : AOp} {v : AV}
 {call : Nat → List AV → Heap → Option (AV × Heap)}
def OpRes (P : Program) (B : Nat) (φ : Phi) (H : Heap) (w : World) (a : Act) (o : Oper) (v : AV) (H' : Heap) : Prop :=
 ∃ x w' φ', Step B φ H w φ' H' w' ∧ VRel φ' v x ∧ ((execOp a.eval o).run P w = .ok (.value x) w' ∨ ((execOp a.eval o).run P w = .ok .skip w' ∧ x = undef))
theorem OpRes.pure (h : HRel B φ H w) {x : Value} (hv : VRel φ v x) (hr : (execOp a.eval o).run P w = .ok (.value x) w) : OpRes P B φ H w a o v H :=
 ⟨x, w, φ, .refl h, hv, .inl hr⟩
theorem agg_run {t : TypeId} {b : Bool} (h : aggO P t = some b) (w : World) : (isAgg t).run P w = .ok b w := by
 unfold aggO at h
 simp only [Option.map_eq_some_iff] at h
 obtain ⟨d, hd, rfl⟩ := h
 simp only [isAgg, Sem.run_bind, run_underlying hd, Result.andThen_ok]
 cases d <;> rfl
theorem size_info {t : TypeId} {n : Nat} (h : sizeO P t = some n) : ∃ i, P.info? t = some i ∧ i.size = n := by
 simpa [sizeO, Option.map_eq_some_iff] using h
theorem size_run {t : TypeId} {n : Nat} (h : sizeO P t = some n) (w : World) : (sizeOf t).run P w = .ok n w := by
 obtain ⟨i, hi, rfl⟩ := size_info h
 simp [sizeOf, typeInfo, hi]
theorem zero_run {t : TypeId} {z : List AV} (h : zeroOf P t = some z) : ∃ (i : TypeInfo) (u : Value), P.info? t = some i ∧ i.zero = some u ∧ z = u.cells.toList.map .v ∧ u.cells.all Value.plain1 = true ∧
 ∀ w, (zeroValue t).run P w = .ok u w := by
 unfold zeroOf at h
 simp only [Option.bind_eq_bind, Option.bind_eq_some_iff] at h
 obtain ⟨i, hi, u, hu, h⟩ := h
 split at h
 ·rename_i hp
  cases h
  exact ⟨i, u, hi, hu, rfl, hp, fun w => by simp [zeroValue, typeInfo, hi, hu]⟩
 ·cases h
/-! reading memory -/
theorem takeN_some : ∀ {n : Nat} {l r : List AV}, takeN n l = some r → r = l.take n ∧ n ≤ l.length
 | 0, l, r, h => by simp only [takeN, Option.some.injEq] at h; subst h; simp
 | n + 1, [], r, h => by simp [takeN] at h
 | n + 1, x :: l, r, h => by
   simp only [takeN, Option.map_eq_some_iff] at h
   obtain ⟨r', h', rfl⟩ := h
   obtain ⟨rfl, hn⟩ := takeN_some h'
   exact ⟨by simp, by simp; omega⟩
theorem getN_cells (hr : HRel B φ H w) {b off n : Nat} {p : Pl} {vs : List AV} (hp : φ b = some p) (hpm : p.mp = false) (h : getN H b off n = some vs) :
 vs.length = n ∧ (∀ c ∈ vs, c.one = true) ∧ ∃ xs : List Value, xs.length = n ∧ (∀ (i : Nat) (c : AV) (x : Value), vs[i]? = some c → xs[i]? = some x → VRel φ c x) ∧
  (∀ (i : Nat) (x : Value), xs[i]? = some x → w.cell? ((⟨p.r, p.o + off, none⟩ : Addr).add i) = some x) := by
 unfold getN at h
 cases hb : H.blks.get b with
 | none => rw [hb] at h; cases h
 | some blk =>
   rw [hb] at h
   obtain ⟨rfl, hn⟩ := takeN_some h
   obtain ⟨_, cur, e, fz, h1, h2, h3, h4, _⟩ := hr.blk b blk p hb hp hpm
   have hlen : ((blk.cells.drop off).take n).length = n := by simp at hn ⊢; omega
   have hone : ∀ (i : Nat) (c : AV), ((blk.cells.drop off).take n)[i]? = some c → ∃ x : Value, cur[p.o + (off + i)]? = some x ∧ VRel φ c x ∧ c.one = true := by
    intro i c hc
    rw [List.getElem?_take] at hc
    split at hc
    ·rw [List.getElem?_drop] at hc
     exact h4 _ _ hc
    ·cases hc
   refine ⟨hlen, ?_, (cur.toList.drop (p.o + off)).take n, ?_, ?_, ?_⟩
   ·intro c hc
    obtain ⟨i, hi⟩ := List.getElem?_of_mem hc
    obtain ⟨_, _, _, h⟩ := hone i c hi
    exact h
   ·simp at hn ⊢; omega
   ·intro i c x hc hx
    obtain ⟨y, hy, hv, _⟩ := hone i c hc
    rw [List.getElem?_take] at hx
    split at hx
    ·rw [List.getElem?_drop] at hx
     have : cur[p.o + (off + i)]? = some x := by rw [← Nat.add_assoc]; simpa using hx
     rw [this] at hy; cases hy
     exact hv
    ·cases hx
   ·intro i x hx
    rw [List.getElem?_take] at hx
    split at hx
    ·rw [List.getElem?_drop] at hx
     have hadd : (⟨p.r, p.o + off, none⟩ : Addr).add i = ⟨p.r, p.o + off + i, none⟩ := by unfold Addr.add; split <;> simp_all
     rw [hadd]
     simp only [World.cell?, h1]
     simpa using hx
    ·cases hx
theorem load_cells_run {ad : Addr} {xs : List Value} (h : ∀ (i : Nat) (x : Value), xs[i]? = some x → w.cell? (ad.add i) = some x) : (loadCells ad xs.length).run P w = .ok xs.toArray w :=
 run_loadCells_list w ad xs h
theorem ptr_inv {b off : Nat} {x : Value} (h : VRel φ (.ptr b off) x) : ∃ p, φ b = some p ∧ p.mp = false ∧ x = .pointer (some ⟨p.r, p.o + off, none⟩) := by
 cases h with
 | ptr h hm => exact ⟨_, h, hm, rfl⟩
theorem v_inv {y x : Value} (h : VRel φ (.v y) x) : x = y ∧ y.oneCell' = true := by
 cases h with
 | v h => exact ⟨rfl, h⟩
theorem getN_rel (hr : HRel B φ H w) {b off n : Nat} {p : Pl} {vs : List AV} (hp : φ b = some p) (hpm : p.mp = false) (h : getN H b off n = some vs) :
 ∃ xs : List Value, xs.length = n ∧ CRel φ vs xs.toArray ∧ (∀ (i : Nat) (x : Value), xs[i]? = some x → w.cell? ((⟨p.r, p.o + off, none⟩ : Addr).add i) = some x) := by
 obtain ⟨h1, h2, xs, h3, h4, h5⟩ := getN_cells hr hp hpm h
 exact ⟨xs, h3, ⟨by simp [h1, h3], fun i c y hc hy => ⟨h4 i c y hc (by simpa using hy), h2 c (List.mem_of_getElem? hc)⟩⟩, h5⟩
theorem load_sound (hr : HRel B φ H w) (hf : FRel φ fr a.tmps) {t : TypeId} {x : Operand} (ho : o.op = .load t x) (hc : cOp P o = some ao) (he : evOp call ao fr H = some (v, H')) :
 OpRes P B φ H w a o v H' := by
 simp only [cOp, ho, Option.bind_eq_bind, Option.bind_eq_some_iff] at hc
 obtain ⟨b, hb, hc⟩ := hc
 cases b with
 | true =>
   simp only [Option.bind_eq_some_iff] at hc
   obtain ⟨n, hn, ax, hx, hc⟩ := hc
   cases hc
   simp only [evOp] at he
   split at he
   ·rename_i bb off hev
    split at he
    ·rename_i vs hg
     cases he
     obtain ⟨p, hp, hpm, hpx⟩ := ptr_inv (ev_sound hf hx hev)
     obtain ⟨xs, h3, h4, h5⟩ := getN_rel hr hp hpm hg
     refine OpRes.pure hr (x := .agg xs.toArray) h4.agg ?_
     have hl := load_cells_run (P := P) h5
     rw [h3] at hl
     simp [execOp, ho, Instr.loadAt, hpx, Instr.sureAddr, loadVar, agg_run hb, size_run hn, hl]
    ·cases he
   ·cases he
 | false =>
   simp only [Option.bind_eq_some_iff] at hc
   obtain ⟨ax, hx, hc⟩ := hc
   cases hc
   simp only [evOp] at he
   split at he
   ·rename_i bb off hev
    split at he
    ·rename_i u hg
     cases he
     obtain ⟨p, hp, hpm, hpx⟩ := ptr_inv (ev_sound hf hx hev)
     obtain ⟨xs, h3, h4, h5⟩ := getN_rel hr hp hpm hg
     match xs, h3, h4, h5 with
     | [y], _, h4, h5 =>
       refine OpRes.pure hr (x := y) (h4.2 0 _ y rfl rfl).1 ?_
       have := h5 0 y rfl
       simp only [Addr.add, if_true] at this
       simp [execOp, ho, Instr.loadAt, hpx, Instr.sureAddr, loadVar, agg_run hb, this]
    ·cases he
   ·cases he
theorem move_sound (hr : HRel B φ H w) (hf : FRel φ fr a.tmps) {x : Operand} (ho : o.op = .move x ∨ o.op = .assign x) (hc : cOp P o = some ao) (he : evOp call ao fr H = some (v, H')) :
 OpRes P B φ H w a o v H' := by
 have hc' : (cX x).map .mv = some ao := by rcases ho with ho | ho <;> simpa only [cOp, ho] using hc
 simp only [Option.map_eq_some_iff] at hc'
 obtain ⟨ax, hx, rfl⟩ := hc'
 simp only [evOp] at he
 split at he
 ·rename_i u hev
  cases he
  refine OpRes.pure hr (ev_sound hf hx hev) ?_
  rcases ho with ho | ho <;> simp [execOp, ho]
 ·cases he
theorem pick_sound (hr : HRel B φ H w) (hf : FRel φ fr a.tmps) {c x y : Operand} (ho : o.op = .pick c x y) (hc : cOp P o = some ao) (he : evOp call ao fr H = some (v, H')) :
 OpRes P B φ H w a o v H' := by
 simp only [cOp, ho, Option.bind_eq_bind, Option.bind_eq_some_iff] at hc
 obtain ⟨cx, hcx, ax, hax, bx, hbx, hc⟩ := hc
 cases hc
 simp only [evOp] at he
 split at he
 ·rename_i hev
  split at he
  ·rename_i u hev2
   cases he
   refine OpRes.pure hr (ev_sound hf hax hev2) ?_
   have := (v_inv (ev_sound hf hcx hev)).1
   simp [execOp, ho, this, asBool]
  ·cases he
 ·rename_i hev
  split at he
  ·rename_i u hev2
   cases he
   refine OpRes.pure hr (ev_sound hf hbx hev2) ?_
   have := (v_inv (ev_sound hf hcx hev)).1
   simp [execOp, ho, this, asBool]
  ·cases he
 ·cases he
theorem new_row (hr : HRel B φ H w) (hφ : φ H.next = none) (es : Nat) {cs : List AV} {xs : Array Value} (h : CRel φ cs xs) (e : TypeId) :
 Step B φ H w (fun b => if b = H.next then some ⟨w.heap.size, 0, xs.size, es, false⟩ else φ b) (H.alloc es cs) (w.alloc (.cells xs e)) :=
 Step.alloc hr es cs xs e (0, 0) hφ (by rw [h.1]; exact Nat.le_refl _) h.at (.inr rfl) _ rfl rfl rfl rfl
theorem alloc_sound (hr : HRel B φ H w) (hφ : ∀ b, H.next ≤ b → b < H'.next → φ b = none) {t : TypeId} (ho : o.op = .alloc t) (hc : cOp P o = some ao) (he : evOp call ao fr H = some (v, H')) :
 OpRes P B φ H w a o v H' := by
 simp only [cOp, ho, Option.bind_eq_bind, Option.bind_eq_some_iff] at hc
 obtain ⟨z, hz, b, hb, hc⟩ := hc
 obtain ⟨i, u, hi, hu, rfl, hp, hzr⟩ := zero_run hz
 have hrel : CRel φ (u.cells.toList.map .v) u.cells := (vrel_plain φ u.cells hp).cs rfl
 have fin : ∀ (av : AV), ao = .box (.c av) → av.cs = some (u.cells.toList.map .v) → OpRes P B φ H w a o v H' := by
  intro av hao hav
  subst hao
  simp only [evOp, evX, hav] at he
  cases he
  refine ⟨.pointer (some ⟨w.heap.size, 0, none⟩), w.alloc (.cells u.cells t), _, new_row hr (hφ _ (Nat.le_refl _) (Nat.lt_succ_self _)) 0 hrel t, ?_, .inl ?_⟩
  ·exact VRel.ptr (p := ⟨w.heap.size, 0, u.cells.size, 0, false⟩) (by simp) rfl
  ·simp [execOp, ho, Instr.alloc, hzr, newVar, newRow]
 cases b with
 | true =>
   simp only [Option.some.injEq] at hc
   exact fin _ hc.symm rfl
 | false =>
   simp only at hc
   split at hc
   ·rename_i z hz'
    cases hc
    refine fin _ rfl ?_
    rw [hz']
    have : z.one = true := hrel.one z (by rw [hz']; simp)
    cases z <;> first | rfl | simp [AV.one] at this
   ·cases hc
theorem box_sound (hr : HRel B φ H w) (hf : FRel φ fr a.tmps) (hφ : ∀ b, H.next ≤ b → b < H'.next → φ b = none) {t : TypeId} {x : Operand} (ho : o.op = .box t x) (hc : cOp P o = some ao) (he : evOp call ao fr H = some (v, H')) :
 OpRes P B φ H w a o v H' := by
 simp only [cOp, ho, Option.map_eq_some_iff] at hc
 obtain ⟨ax, hx, rfl⟩ := hc
 simp only [evOp] at he
 split at he
 ·rename_i u hev
  split at he
  ·rename_i vs hvs
   cases he
   have hrel := (ev_sound hf hx hev).cs hvs
   refine ⟨.pointer (some ⟨w.heap.size, 0, none⟩), w.alloc (.cells (a.eval x).cells t), _, new_row hr (hφ _ (Nat.le_refl _) (Nat.lt_succ_self _)) 0 hrel t, ?_, .inl ?_⟩
   ·exact VRel.ptr (p := ⟨w.heap.size, 0, (a.eval x).cells.size, 0, false⟩) (by simp) rfl
   ·simp [execOp, ho, Instr.box, newVar, newRow]
  ·cases he
 ·cases he
/-! writing memory -/
theorem store_cells_run (g o : Nat) (t : TypeId) (fz : Nat × Nat) : ∀ (vs : List Value) (i : Nat) (cur : Array Value) (w : World), w.heap[g]? = some (.cells cur t fz) → (cur.size ≤ fz.1 ∨ fz.2 = fz.1) →
 o + i + vs.length ≤ cur.size → (∀ v ∈ vs, v.oneCell' = true) → (storeCells ⟨g, o, none⟩ vs i).run P w = .ok () (w.setRow g (splice cur (o + i) vs))
 | [], i, cur, w, hg, _, _, _ => by
   have : splice cur (o + i) [] = cur := by simp [splice]
   rw [this, setRow_self w g cur t fz hg]
   rfl
 | v :: rest, i, cur, w, hg, hz, hl, h1 => by
   have hi : o + i < cur.size := by simp at hl; omega
   have hadd : (⟨g, o, none⟩ : Addr).add i = ⟨g, o + i, none⟩ := by unfold Addr.add; split <;> simp_all
   have hcell : w.cell? ⟨g, o + i, none⟩ = some cur[o + i] := by simp [World.cell?, hg, hi]
   have hfro : w.frozen? ⟨g, o + i, none⟩ = false := by
    simp only [World.frozen?, hg]
    rcases hz with hz | hz
    ·simp; omega
    ·simp; omega
   have hst : (store ((⟨g, o, none⟩ : Addr).add i) v).run P w = .ok () (w.setRow g (cur.setIfInBounds (o + i) v)) := by
    rw [hadd, run_store P w _ v _ (h1 v (by simp)), hcell]
    simp [hfro, setCell_eq_setRow w g (o + i) cur t fz v hg]
   have ih := store_cells_run g o t fz rest (i + 1) (cur.setIfInBounds (o + i) v) (w.setRow g (cur.setIfInBounds (o + i) v)) (setRow_heap w g cur _ t _ hg) (by simpa using hz) (by simp at hl ⊢; omega) (fun x hx => h1 x (by simp [hx]))
   simp only [storeCells, Sem.run_bind, hst, Result.andThen_ok, ih, setRow_setRow]
   congr 2
   have e := list_seg_step cur.toList (o + i) v rest (by simp at hl ⊢; omega)
   simp only [splice]
   congr 1
   simpa [Array.toList_setIfInBounds, Nat.add_assoc] using e
theorem solo (hr : HRel B φ H w) {b : Nat} {p : Pl} {blk : Blk} (hb : H.blks.get b = some blk) (hp : φ b = some p) (hwr : blk.wr = true) (m : Option Nat) (hm : ∀ b', m = some b' → H.next ≤ b')
 (H1 : Heap) (hn : H1.next = H.next) (g1 : ∀ j, H1.blks.get j = if j = b then some ⟨blk.cells, true, m, blk.es⟩ else if blk.mate = some j then none else H.blks.get j) :
 Step B φ H w φ H1 w ∧ Alone φ H1 b p := by
 have hbn : b < H.next := by
  rcases Nat.lt_or_ge b H.next with h | h
  ·exact h
  ·rw [hr.lt b h] at hb; cases hb
 refine ⟨Step.sub hr hn ?_, ?_⟩
 ·intro j blk' hj
  rw [g1] at hj
  by_cases hjb : j = b
  ·subst hjb
   simp only [if_true, Option.some.injEq] at hj
   subst hj
   refine ⟨blk, hb, rfl, hwr.symm, rfl, ?_⟩
   intro b' hne hb' _ hmm
   rw [g1, if_neg hne, if_pos hmm] at hb'
   simp at hb'
  ·simp only [hjb, if_false] at hj
   split at hj
   ·cases hj
   ·exact ⟨blk', hj, rfl, rfl, rfl, fun _ _ _ h => h⟩
 ·intro b' blk' p' hb' hne hp' e
  rw [g1, if_neg hne] at hb'
  split at hb'
  ·cases hb'
  ·rename_i hmm
   exact hr.sep b blk b' blk' p p' hb hb' (Ne.symm hne) hwr hmm hp hp' e.symm
theorem write_step (hr : HRel B φ H w) {b off : Nat} {p : Pl} {vs : List AV} {ys : Array Value} (hp : φ b = some p) (hpm : p.mp = false) (hv : CRel φ vs ys) (hw : H.write b off vs = some H') :
 ∃ w', Step B φ H w φ H' w' ∧ (storeCells ⟨p.r, p.o + off, none⟩ ys.toList).run P w = .ok () w' := by
 unfold Heap.write at hw
 split at hw
 ·rename_i blk hb
  split at hw
  ·rename_i hwr
   split at hw
   ·rename_i cs hput
    cases hw
    obtain ⟨s1, hal⟩ := solo hr hb hp hwr none (by simp) ⟨H.next, (H.kill blk.mate).blks.set b (some ⟨blk.cells, true, none, blk.es⟩)⟩ rfl (fun j => by
     show ((H.kill blk.mate).blks.set b _).get j = _
     rw [T.get_set, Heap.get_kill])
    obtain ⟨es0, cur, e, fz, h1, h2, h3, h4, h5⟩ := hr.blk b blk p hb hp hpm
    obtain ⟨k1, k2, k3⟩ := putAt_some hput
    have hle : p.o + off + ys.toList.length ≤ cur.size := by have := hv.1; simp; omega
    refine ⟨w.setRow p.r (splice cur (p.o + off) ys.toList), s1.trans (Step.put s1.rel (b := b) (blk := ⟨blk.cells, true, none, blk.es⟩) (by
     show ((H.kill blk.mate).blks.set b _).get b = _
     rw [T.get_set, if_pos rfl]) hp rfl hal cs cur _ e fz h1 (splice_size hle) (by omega) ?_ rfl (fun j => ?_)), ?_⟩
    ·intro i c hc
     rw [splice_get hle]
     rw [k3] at hc
     have hl : ys.toList.length = vs.length := by rw [hv.1]; simp
     rw [hl]
     by_cases hi : off ≤ i ∧ i < off + vs.length
     ·rw [if_pos hi] at hc
      rw [if_pos (by omega)]
      obtain ⟨x, g1, g2⟩ := hv.at _ c hc
      exact ⟨x, by rw [← g1]; simp; congr 1; omega, g2⟩
     ·rw [if_neg hi] at hc
      rw [if_neg (by omega)]
      exact h4 i c hc
    ·show ((H.kill blk.mate).blks.set b _).get j = if j = b then _ else ((H.kill blk.mate).blks.set b _).get j
     rw [T.get_set, T.get_set]
     by_cases hjb : j = b
     ·simp [hjb]
     ·simp [hjb]
    ·have := store_cells_run (P := P) p.r (p.o + off) e fz ys.toList 0 cur w h1 (h5 hwr).2 (by simpa using hle) hv.oneCell
     simpa using this
   ·cases hw
  ·cases hw
 ·cases hw
theorem store_sound (hr : HRel B φ H w) (hf : FRel φ fr a.tmps) {t : TypeId} {x y : Operand} (ho : o.op = .store t x y) (hc : cOp P o = some ao) (he : evOp call ao fr H = some (v, H')) :
 OpRes P B φ H w a o v H' := by
 simp only [cOp, ho, Option.bind_eq_bind, Option.bind_eq_some_iff] at hc
 obtain ⟨n, hn, ax, hax, ay, hay, hc⟩ := hc
 cases hc
 simp only [evOp] at he
 split at he
 ·rename_i b off u hev hev2
  split at he
  ·rename_i vs hvs
   split at he
   ·rename_i hlen
    split at he
    ·rename_i H1 hw
     cases he
     obtain ⟨p, hp, hpm, hpx⟩ := ptr_inv (ev_sound hf hax hev)
     have hrel := (ev_sound hf hay hev2).cs hvs
     obtain ⟨w', hs, hrun⟩ := write_step (P := P) hr hp hpm hrel hw
     refine ⟨undef, w', φ, hs, .tup (by simp) (by simp), .inr ⟨?_, rfl⟩⟩
     have hsz : (a.eval y).cells.size = n := by rw [← hrel.1, hlen]
     simp [execOp, ho, Instr.storeAt, hpx, Instr.sureAddr, storeVar, size_run hn, hsz, hrun]
    ·cases he
   ·cases he
  ·cases he
 ·cases he
end
end Go.AM
namespace Go.AM
open Go.RowKit
section
variable {P : Program} {B : Nat} {φ : Phi} {H H' : Heap} {w : World} {fr : T AV} {a : Act} {o : Oper} {ao : AOp} {v : AV}
 {call : Nat → List AV → Heap → Option (AV × Heap)}
theorem foldl_splice (off : Nat) : ∀ (l : List Value) (n : Nat) (cs : Array Value), off + n + l.length ≤ cs.size →
 (l.zipIdx n).foldl (fun cs (p : Value × Nat) => cs.setIfInBounds (off + p.2) p.1) cs = splice cs (off + n) l
 | [], n, cs, _ => by simp [splice]
 | v :: l, n, cs, h => by
   simp only [List.length_cons] at h
   rw [List.zipIdx_cons, List.foldl_cons, foldl_splice off l (n + 1) _ (by simp; omega)]
   have e := list_seg_step cs.toList (off + n) v l (by simp; omega)
   simp only [splice]
   congr 1
   simpa [Array.toList_setIfInBounds, Nat.add_assoc] using e
theorem fill_rel (hf : FRel φ fr a.tmps) {place : Nat → Option (Nat × Nat)} : ∀ {ps : List (Nat × Operand)} {ps' : List (Nat × Nat × AX)} {cs cs' : List AV} {cells : Array Value},
 CRel φ cs cells → cParts place ps = some ps' → fillA fr cs ps' = some cs' →
 ∃ cells', Instr.fill place cells (ps.map fun (i, x) => (i, a.eval x)) = some cells' ∧ CRel φ cs' cells'
 | [], ps', cs, cs', cells, hc, hp, hfill => by
   cases hp
   simp only [fillA, Option.some.injEq] at hfill
   subst hfill
   exact ⟨cells, rfl, hc⟩
 | (i, x) :: ps, ps', cs, cs', cells, hc, hp, hfill => by
   simp only [cParts, Option.bind_eq_bind, Option.bind_eq_some_iff, Option.some.injEq] at hp
   obtain ⟨⟨off, s⟩, hpl, ax, hx, r, hr, rfl⟩ := hp
   simp only [fillA] at hfill
   split at hfill
   ·rename_i u hev
    split at hfill
    ·rename_i vs hvs
     split at hfill
     ·rename_i hlen
      split at hfill
      ·rename_i cs1 hput
       have hrel := (ev_sound hf hx hev).cs hvs
       obtain ⟨k1, k2⟩ := hc.put hrel hput
       obtain ⟨cells', g1, g2⟩ := fill_rel hf k1 hr hfill
       refine ⟨cells', ?_, g2⟩
       have hsz : (a.eval x).cells.size = s := by rw [← hrel.1, hlen]
       simp only [List.map_cons, Instr.fill, hpl]
       rw [if_neg (by simp only [hsz]; simp only [hsz] at k2; simp; omega)]
       rw [← g1]
       congr 1
       have e := foldl_splice off (a.eval x).cells.toList 0 cells (by simpa using k2)
       simp only [Nat.add_zero] at e
       rw [← e, ← Array.foldl_toList]
       simp
      ·cases hfill
     ·cases hfill
    ·cases hfill
   ·cases hfill
theorem map_parts (a : Act) (ps : Array (Nat × Operand)) : (ps.map fun (i, x) => (i, a.eval x)).toList = ps.toList.map fun (i, x) => (i, a.eval x) := by simp
theorem build_sound (hr : HRel B φ H w) (hf : FRel φ fr a.tmps) {t : TypeId} {ps : Array (Nat × Operand)} (ho : o.op = .build t ps) (hc : cOp P o = some ao) (he : evOp call ao fr H = some (v, H')) :
 OpRes P B φ H w a o v H' := by
 simp only [cOp, ho, Option.bind_eq_bind, Option.bind_eq_some_iff] at hc
 obtain ⟨z, hz, d, hd, hc⟩ := hc
 obtain ⟨i, u, hi, hu, rfl, hp, hzr⟩ := zero_run hz
 have hrel : CRel φ (u.cells.toList.map .v) u.cells := (vrel_plain φ u.cells hp).cs rfl
 have fin : ∀ (place : Nat → Option (Nat × Nat)) (l : List (Nat × Nat × AX)), cParts place ps.toList = some l → ao = .build (u.cells.toList.map .v) l →
  (∀ cells, Instr.fill place u.cells (ps.map fun (i, x) => (i, a.eval x)).toList = some cells → P.built t (ps.map fun (i, x) => (i, a.eval x)).toList = some cells) → OpRes P B φ H w a o v H' := by
  intro place l hl hao hb
  subst hao
  simp only [evOp] at he
  split at he
  ·rename_i cs hfill
   cases he
   obtain ⟨cells, g1, g2⟩ := fill_rel hf hrel hl hfill
   refine OpRes.pure hr g2.agg ?_
   have := run_build (P := P) w t _ cells (hb cells (by rw [map_parts]; exact g1))
   simp [execOp, ho, this]
  ·cases he
 cases d with
 | struct fs =>
   simp only [Option.bind_eq_some_iff, Option.some.injEq] at hc
   obtain ⟨places, hpl, l, hl, rfl⟩ := hc
   refine fin _ l hl rfl (fun cells hfill => ?_)
   simp only [Program.built, hi, hd, hu, hpl]
   exact hfill
 | array n e =>
   simp only [Option.bind_eq_some_iff, Option.some.injEq] at hc
   obtain ⟨s, hs, l, hl, rfl⟩ := hc
   obtain ⟨ie, hie, rfl⟩ := size_info hs
   refine fin _ l hl rfl (fun cells hfill => ?_)
   simp only [Program.built, hi, hd, hu, hie]
   exact hfill
 | _ => cases hc
theorem flat_get {α : Type} (z : List α) (hz : 0 < z.length) : ∀ (n i : Nat), (List.replicate n z).flatten[i]? = if i < n * z.length then z[i % z.length]? else none
 | 0, i => by simp
 | n + 1, i => by
   rw [List.replicate_succ, List.flatten_cons]
   by_cases h : i < z.length
   ·rw [List.getElem?_append_left h, if_pos (by rw [Nat.succ_mul]; omega), Nat.mod_eq_of_lt h]
   ·rw [List.getElem?_append_right (by omega), flat_get z hz n]
    by_cases h2 : i < (n + 1) * z.length
    ·rw [if_pos h2, if_pos (by rw [Nat.succ_mul] at h2; omega)]
     congr 1
     rw [← Nat.mod_eq_sub_mod (by omega)]
    ·rw [if_neg h2, if_neg (by rw [Nat.succ_mul] at h2; omega)]
theorem flat_len {α : Type} (z : List α) (n : Nat) : (List.replicate n z).flatten.length = n * z.length := by simp
theorem zeros_rel {z : List AV} {xs : Array Value} (h : CRel φ z xs) (hz : 0 < z.length) (n : Nat) : CRel φ (List.replicate n z).flatten ((Array.range (n * z.length)).map (xs[· % xs.size]!)) := by
 refine ⟨by rw [flat_len]; simp, ?_⟩
 intro i c y hc hy
 rw [flat_get z hz] at hc
 split at hc
 ·rename_i hi
  have hlt : i % z.length < xs.size := by rw [← h.1]; exact Nat.mod_lt _ hz
  have : y = xs[i % z.length] := by
   simp only [Array.getElem?_map, Array.getElem?_range, hi, if_true, Option.map_some, Option.some.injEq] at hy
   rw [← hy, ← h.1]
   simp [hlt]
  subst this
  exact h.2 _ c _ hc (by simp [hlt])
 ·cases hc
theorem bslice_sound (hr : HRel B φ H w) (hf : FRel φ fr a.tmps) (hφ : ∀ b, H.next ≤ b → b < H'.next → φ b = none) {t : TypeId} {len : Nat} {ps : Array (Nat × Operand)} (ho : o.op = .buildSlice t len ps) (hc : cOp P o = some ao) (he : evOp call ao fr H = some (v, H')) :
 OpRes P B φ H w a o v H' := by
 simp only [cOp, ho, Option.bind_eq_bind, Option.bind_eq_some_iff] at hc
 obtain ⟨d, hd, hc⟩ := hc
 cases d with
 | slice e =>
   simp only [Option.bind_eq_some_iff] at hc
   obtain ⟨s, hs, z, hz, l, hl, hc⟩ := hc
   split at hc
   ·rename_i hcond
    obtain ⟨hzl, hpos, hsmall⟩ := hcond
    cases hc
    obtain ⟨i, u, hi, hu, rfl, hp, hzr⟩ := zero_run hz
    obtain ⟨ie, hie, rfl⟩ := size_info hs
    rw [hi] at hie; cases hie
    have hrel : CRel φ (u.cells.toList.map .v) u.cells := (vrel_plain φ u.cells hp).cs rfl
    have hzs : u.cells.size = i.size := by simpa using hzl
    have hzr' := zeros_rel hrel (by rw [hzl]; exact hpos) len
    rw [hzl] at hzr'
    simp only [evOp] at he
    split at he
    ·rename_i cs hfill
     cases he
     obtain ⟨cells, g1, g2⟩ := fill_rel hf hzr' hl hfill
     have hcs : cells.size = len * i.size := by
      rw [← g2.1]
      have : ∀ {l : List (Nat × Nat × AX)} {cs cs' : List AV}, fillA fr cs l = some cs' → cs'.length = cs.length := by
       intro l
       induction l with
       | nil => intro cs cs' h; simp only [fillA, Option.some.injEq] at h; rw [h]
       | cons q l ih =>
         intro cs cs' h
         obtain ⟨o, s, x⟩ := q
         simp only [fillA] at h
         split at h
         ·split at h
          ·split at h
           ·split at h
            ·rename_i hput
             rw [ih h, (putAt_some hput).2.1]
            ·cases h
           ·cases h
          ·cases h
         ·cases h
      rw [this hfill, flat_len, hzl]
     refine ⟨.slice (some ⟨w.heap.size, 0, none⟩) len len, w.alloc (.cells cells e), _, new_row hr (hφ _ (Nat.le_refl _) (Nat.lt_succ_self _)) i.size g2 e, ?_, .inl ?_⟩
     ·exact VRel.sl (p := ⟨w.heap.size, 0, cells.size, i.size, false⟩) (by simp) (Nat.le_refl _) (Nat.le_refl _) (fun _ => rfl) (by simp [hcs]) (.inr rfl) rfl
     ·by_cases hlen : len = 0
      ·subst hlen
       have e0 : Array.range 0 = (#[] : Array Nat) := rfl
       have g1' : Instr.fill (fun j => some (j * i.size, i.size)) #[] (ps.toList.map fun (i, x) => (i, a.eval x)) = some cells := by simpa [e0] using g1
       simp [execOp, ho, Instr.buildSlice, run_underlying hd, sizeOf, typeInfo, hi, newRow, g1', e0]
      ·have h0 : ¬ len * i.size = 0 := by
        intro h
        rcases Nat.mul_eq_zero.1 h with h | h <;> omega
       have := run_buildSlice (P := P) w t e len (ps.map fun (i, x) => (i, a.eval x)) cells i u hd hi hu (by omega) h0 (by rw [map_parts]; exact g1)
       simp [execOp, ho, this]
    ·cases he
   ·cases hc
 | _ => cases hc
theorem nilc_sound (hr : HRel B φ H w) (hf : FRel φ fr a.tmps) {x : Operand} (ho : o.op = .nilCheck x) (hc : cOp P o = some ao) (he : evOp call ao fr H = some (v, H')) :
 OpRes P B φ H w a o v H' := by
 simp only [cOp, ho, Option.map_eq_some_iff] at hc
 obtain ⟨ax, hx, rfl⟩ := hc
 simp only [evOp] at he
 split at he
 ·rename_i b off hev
  cases he
  have h := ev_sound hf hx hev
  refine OpRes.pure hr h ?_
  obtain ⟨p, _, _, hpx⟩ := ptr_inv h
  simp [execOp, ho, hpx]
 ·rename_i f c hev
  cases he
  have h := ev_sound hf hx hev
  refine OpRes.pure hr h ?_
  generalize hy : a.eval x = y at h
  cases h
  simp [execOp, ho, hy]
 ·cases he
theorem ext_sound (hr : HRel B φ H w) (hf : FRel φ fr a.tmps) {x : Operand} {i : Nat} (ho : o.op = .extract x i) (hc : cOp P o = some ao) (he : evOp call ao fr H = some (v, H')) :
 OpRes P B φ H w a o v H' := by
 simp only [cOp, ho, Option.bind_eq_bind, Option.bind_eq_some_iff] at hc
 obtain ⟨ax, hx, hc⟩ := hc
 cases hc
 simp only [evOp] at he
 split at he
 ·rename_i vs hev
  split at he
  ·rename_i u hu
   cases he
   have h := ev_sound hf hx hev
   generalize hy : a.eval x = y at h
   cases h with
   | tup h1 h2 =>
     rename_i xs
     have hlt : i < vs.length := (List.getElem?_eq_some_iff.1 hu).1
     rw [h1] at hlt
     refine OpRes.pure hr (h2 i _ xs[i] hu (by simp [hlt])) ?_
     simp [execOp, ho, hy, Instr.extract, hlt]
  ·cases he
 ·cases he
theorem faddr_sound (hr : HRel B φ H w) (hf : FRel φ fr a.tmps) {t : TypeId} {x : Operand} {i : Nat} (ho : o.op = .fieldAddr t x i) (hc : cOp P o = some ao) (he : evOp call ao fr H = some (v, H')) :
 OpRes P B φ H w a o v H' := by
 simp only [cOp, ho, Option.bind_eq_bind, Option.bind_eq_some_iff] at hc
 obtain ⟨d, hd, hc⟩ := hc
 cases d with
 | struct fs =>
   simp only [Option.bind_eq_some_iff] at hc
   obtain ⟨f, hfi, s, hs, ax, hx, hc⟩ := hc
   split at hc
   ·rename_i hpos
    cases hc
    simp only [evOp] at he
    split at he
    ·rename_i b off hev
     cases he
     obtain ⟨p, hp, hpm, hpx⟩ := ptr_inv (ev_sound hf hx hev)
     refine OpRes.pure hr (x := .pointer (some ⟨p.r, p.o + (off + f.offset), none⟩)) (.ptr hp hpm) ?_
     have hadd : (⟨p.r, p.o + off, none⟩ : Addr).add f.offset = ⟨p.r, p.o + (off + f.offset), none⟩ := by
      unfold Addr.add; split <;> simp_all [Nat.add_assoc]
     have hs0 : ¬ s = 0 := by omega
     simp [execOp, ho, Instr.fieldAt, run_underlying hd, hfi, hpx, Instr.sureAddr, fieldPlace, size_run hs, hs0, hadd]
    ·cases he
   ·cases hc
 | _ => cases hc
theorem field_sound (hr : HRel B φ H w) (hf : FRel φ fr a.tmps) {t : TypeId} {x : Operand} {i : Nat} (ho : o.op = .field t x i) (hc : cOp P o = some ao) (he : evOp call ao fr H = some (v, H')) :
 OpRes P B φ H w a o v H' := by
 simp only [cOp, ho, Option.bind_eq_bind, Option.bind_eq_some_iff] at hc
 obtain ⟨d, hd, hc⟩ := hc
 cases d with
 | struct fs =>
   simp only [Option.bind_eq_some_iff] at hc
   obtain ⟨f, hfi, g, hg, hc⟩ := hc
   cases g with
   | true =>
     simp only [Option.bind_eq_some_iff] at hc
     obtain ⟨s, hs, ax, hx, hc⟩ := hc
     cases hc
     simp only [evOp] at he
     split at he
     ·rename_i cs hev
      split at he
      ·rename_i vs hvs
       cases he
       have h := ev_sound hf hx hev
       generalize hy : a.eval x = y at h
       have hrel := h.cs rfl
       cases h with
       | agg h1 h2 h3 =>
         rename_i xs
         obtain ⟨rfl, hn⟩ := takeN_some hvs
         refine OpRes.pure hr (x := .agg (xs.extract f.offset (f.offset + s))) (CRel.agg ⟨?_, ?_⟩) ?_
         ·simp at hn ⊢; omega
         ·intro j c y hc hyy
          rw [List.getElem?_take] at hc
          split at hc
          ·rename_i hj
           rw [List.getElem?_drop] at hc
           rw [Array.getElem?_extract] at hyy
           split at hyy
           ·exact hrel.2 _ c y hc hyy
           ·cases hyy
          ·cases hc
         ·simp [execOp, ho, hy, Instr.field, run_underlying hd, hfi, part, agg_run hg, size_run hs, asAgg]
      ·cases he
     ·cases he
   | false =>
     simp only [Option.bind_eq_some_iff] at hc
     obtain ⟨ax, hx, hc⟩ := hc
     cases hc
     simp only [evOp] at he
     split at he
     ·rename_i cs hev
      split at he
      ·rename_i u hu
       cases he
       have h := ev_sound hf hx hev
       generalize hy : a.eval x = y at h
       have hrel := h.cs rfl
       cases h with
       | agg h1 h2 h3 =>
         rename_i xs
         have hlt : f.offset < cs.length := (List.getElem?_eq_some_iff.1 hu).1
         rw [h1] at hlt
         refine OpRes.pure hr (h2 _ _ xs[f.offset] hu (by simp [hlt])) ?_
         simp [execOp, ho, hy, Instr.field, run_underlying hd, hfi, part, agg_run hg, asAgg, hlt]
      ·cases he
     ·cases he
 | _ => cases hc
end
end Go.AM
