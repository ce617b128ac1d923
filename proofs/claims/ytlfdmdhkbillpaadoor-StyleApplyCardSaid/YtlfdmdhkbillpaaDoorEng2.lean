/- The engine, part 2: what each operation does to values, as conditions to be shown. Definitions alone. -/
import Derived.Test.YtlfdmdhkbillpaaDoorEng1
namespace Go.Eng
open Go

def ofV1 : Value → PV
  | .bool b => .bool b
  | .int k n => .int k n
  | .string s => .str s.data.toList
  | .slice none 0 0 => .nils
  | v => .lit v
def ofV : Value → PV
  | .agg cs => .agg (cs.toList.map ofV1)
  | v => ofV1 v
def ev (env : Env) : Operand → PV
  | .tmp t => env t
  | .const v => ofV v
  | .func f => .fn f []
  | .global g => .lit (.pointer (some ⟨g, 0, none⟩))
def evO (env : Env) : Option Operand → Option PV
  | some x => some (ev env x)
  | none => none

def kEq : IntKind → IntKind → Bool
  | .i8, .i8 => true | .i16, .i16 => true | .i32, .i32 => true | .i64, .i64 => true
  | .u8, .u8 => true | .u16, .u16 => true | .u32, .u32 => true | .u64, .u64 => true
  | _, _ => false
theorem kEq_eq {a b : IntKind} (h : kEq a b = true) : a = b := by cases a <;> cases b <;> first | rfl | cases h

def maxInt : Int := 9223372036854775807
def bitop (op : BinOp) (k : IntKind) (x y : Int) : Int :=
  let a := BitVec.ofInt k.bits x
  let b := BitVec.ofInt k.bits y
  k.wrap (match op with
    | .and => (a &&& b).toNat
    | .or => (a ||| b).toNat
    | .xor => (a ^^^ b).toNat
    | _ => (a &&& ~~~b).toNat)

/-- A condition that stands ahead of the rest. -/
structure need (c : Prop) (k : Prop) : Prop where
  mk ::
  cond : c
  rest : k

/-- What is to be shown for whatever comes. -/
structure Nat1 (n : Int) (k : Nat → Prop) : Prop where
  mk ::
  all : ∀ q : Nat, n = q → k q
structure Elem1 {α : Type} (l : List α) (q : Nat) (k : α → Prop) : Prop where
  mk ::
  all : ∀ e, l[q]? = some e → k e
structure Lst1 {α : Type} (l : List α) (k : List α → Prop) : Prop where
  mk ::
  all : ∀ l', l' = l → k l'
/-- A number that is reckoned first. -/
def litN (n : Nat) (k : Nat → Prop) : Prop :=
  match n with
  | 0 => k 0
  | m + 1 => k (m + 1)
theorem litN_eq (n : Nat) (k : Nat → Prop) : litN n k = k n := by cases n <;> rfl
theorem litN_spec {n : Nat} {k : Nat → Prop} (h : litN n k) : k n := by cases n <;> exact h
/-- A check that the walk makes itself. -/
def chk (b : Bool) (k : Prop) : Prop :=
  match b with
  | true => k
  | false => False
theorem chk_spec {b : Bool} {k : Prop} (h : chk b k) : b = true ∧ k := by
  cases b
  · exact h.elim
  · exact ⟨rfl, h⟩

/-- Whether two values of a comparable type are the same, where that is plain; lists of cells one by one. -/
def eqCell : PV → PV → Option Bool
  | .bool a, .bool b => some (decide (a = b))
  | .int k a, .int k' b => if kEq k k' = true then some (decide (a = b)) else none
  | .str a, .str b => some (decide (a = b))
  | _, _ => none

/-- A number in its range stands as it is; else it is wrapped. -/
inductive Fits (lo hi n : Int) (A B : Prop) : Prop
  | ok (h1 : lo ≤ n) (h2 : n ≤ hi) (h : A)
  | wrap (h : B)
def inV (ik : IntKind) (n : Int) (k : PV → Prop) : Prop :=
  match ik with
  | .i64 => Fits (-9223372036854775808) 9223372036854775807 n (k (.int .i64 n)) (k (.int .i64 (IntKind.i64.wrap n)))
  | .i32 => Fits (-2147483648) 2147483647 n (k (.int .i32 n)) (k (.int .i32 (IntKind.i32.wrap n)))
  | .u8 => Fits 0 255 n (k (.int .u8 n)) (k (.int .u8 (IntKind.u8.wrap n)))
  | ik => k (.int ik (ik.wrap n))
theorem inV_spec {ik : IntKind} {n : Int} {k : PV → Prop} (h : inV ik n k) : k (.int ik (ik.wrap n)) := by
  cases ik <;> first
    | exact h
    | (cases h with
        | wrap h => exact h
        | ok h1 h2 h =>
          first
            | (rw [IntKind.wrap_i64, show (n + 9223372036854775808) % 18446744073709551616 - 9223372036854775808 = n by omega]; exact h)
            | (rw [IntKind.wrap_i32, show (n + 2147483648) % 4294967296 - 2147483648 = n by omega]; exact h)
            | (rw [IntKind.wrap_u8, show n % 256 = n by omega]; exact h))
theorem inV_mk {ik : IntKind} {n : Int} {k : PV → Prop} (h : k (.int ik (ik.wrap n))) : inV ik n k := by
  cases ik <;> first | exact h | exact .wrap h

def binV (P : Program) (t : TypeId) (op : BinOp) (x y : PV) (k : PV → Prop) : Prop :=
  match x, y with
  | .int ik a, .int jk b =>
    match op with
    | .shl => need (0 ≤ b) (k (.int ik (ik.wrap (a * 2 ^ min b.toNat ik.bits))))
    | .shr => need (0 ≤ b) (k (.int ik (a.fdiv (2 ^ min b.toNat ik.bits))))
    | _ =>
      match kEq ik jk with
      | false => False
      | true =>
        match op with
        | .add => inV ik (a + b) k
        | .sub => inV ik (a - b) k
        | .mul => inV ik (a * b) k
        | .quo => need (b ≠ 0) (inV ik (a.tdiv b) k)
        | .rem => need (b ≠ 0) (k (.int ik (a.tmod b)))
        | .and => k (.int ik (bitop .and ik a b))
        | .or => k (.int ik (bitop .or ik a b))
        | .xor => k (.int ik (bitop .xor ik a b))
        | .andNot => k (.int ik (bitop .andNot ik a b))
        | .eql => k (.bool (decide (a = b)))
        | .neq => k (.bool (decide (a ≠ b)))
        | .lss => k (.bool (decide (a < b)))
        | .leq => k (.bool (decide (a ≤ b)))
        | .gtr => k (.bool (decide (b < a)))
        | .geq => k (.bool (decide (b ≤ a)))
        | _ => False
  | .str a, .str b =>
    match op with
    | .add => need ((a.length : Int) + b.length ≤ 9223372036854775807) (k (.str (a ++ b)))
    | .eql => k (.bool (decide (a = b)))
    | .neq => k (.bool (decide (a ≠ b)))
    | .lss => k (.bool (Op.bytesLess a b))
    | .geq => k (.bool (!Op.bytesLess a b))
    | .leq => k (.bool (Op.bytesLess a b || decide (a = b)))
    | .gtr => k (.bool (!(Op.bytesLess a b || decide (a = b))))
    | _ => False
  | .bool a, .bool b =>
    match P.underlying t with
    | some .bool =>
      match op with
      | .eql => k (.bool (decide (a = b)))
      | .neq => k (.bool (decide (a ≠ b)))
      | _ => False
    | _ => False
  | _, _ => False

def unV (op : UnOp) (x : PV) (k : PV → Prop) : Prop :=
  match op, x with
  | .not, .bool b => k (.bool (!b))
  | .neg, .int ik n => inV ik (0 - n) k
  | _, _ => False

def isAggB (P : Program) (t : TypeId) : Bool :=
  match P.underlying t with
  | some (.struct _) => true
  | some (.array _ _) => true
  | _ => false

def tyOk (P : Program) (t : TypeId) : Bool := (P.underlying t).isSome && Nat.blt 0 (P.cellsOf t)
/-- A part of a value: from cell f on, n cells. -/
def partV (agg : Bool) (n : Nat) (e : List PV) (f : Nat) : PV :=
  match agg with
  | true => .agg ((e.drop f).take n)
  | false => e.getD f .dead
def splice {α : Type} (cs : List α) (f : Nat) (vs : List α) : List α := cs.take f ++ vs ++ cs.drop (f + vs.length)
def setPart (e : PV) (f : Nat) (v : PV) : PV :=
  match e with
  | .agg cs => .agg (splice cs f v.flat)
  | _ => v
/-- May it stand in one cell? -/
def cellB : PV → Bool
  | .lit v => v.oneCell'
  | .agg _ => false
  | .tup _ => false
  | .opt _ _ => false
  | .dead => false
  | _ => true
def cellsB (v : PV) : Bool := v.flat.all cellB

/-- Where a block of the call's own stands. -/
inductive Look : Mem → Nat → Cont → Mem → Prop
  | here (b : Nat) (c : Cont) (r : Mem) : Look (⟨b, c⟩ :: r) b c r
  | there (k : Blk) (σ : Mem) (b : Nat) (c : Cont) (r : Mem) (h : Look σ b c r) : Look (k :: σ) b c (k :: r)

structure New1 (σ : Mem) (k : Nat → Prop) : Prop where
  mk ::
  all : ∀ b, (∀ z ∈ σ, z.b ≠ b) → k b
structure New2 (b : Nat) (σ : Mem) (k : Nat → Prop) : Prop where
  mk ::
  all : ∀ b', (b' = b ∨ ∀ z ∈ σ, z.b ≠ b') → k b'
/-- What a row of the call's own has, and what follows. -/
inductive RowAt (σ : Mem) (b : Nat) (k : Nat → List PV → Nat → Mem → Prop) : Prop
  | mk (sz : Nat) (es : List PV) (fz : Nat) (r : Mem) (hl : Look σ b (.row sz es fz) r) (h : k sz es fz r)
abbrev rowAt (σ : Mem) (b : Nat) (k : Nat → List PV → Nat → Mem → Prop) : Prop := RowAt σ b k

def loadV (P : Program) (t : TypeId) (x : PV) (σ : Mem) (k : PV → Prop) : Prop :=
  match x with
  | .bref b f => rowAt σ b fun _ es _ _ =>
      match es with
      | [e] => chk (Nat.ble (f + P.cellsOf t) e.flat.length && tyOk P t) (k (partV (isAggB P t) (P.cellsOf t) e.flat f))
      | _ => False
  | .ref b sz i f => rowAt σ b fun sz' es _ _ => chk (Nat.beq sz' sz && Nat.ble (f + P.cellsOf t) sz && tyOk P t) (need (i < es.length) (Elem1 es i fun e => k (partV (isAggB P t) (P.cellsOf t) e.flat f)))
  | .ip e f => chk (Nat.ble (f + P.cellsOf t) e.flat.length && tyOk P t) (k (partV (isAggB P t) (P.cellsOf t) e.flat f))
  | _ => False

def storeV (P : Program) (t : TypeId) (x v : PV) (σ : Mem) (k : Mem → Prop) : Prop :=
  match x with
  | .bref b f => rowAt σ b fun sz es fz r =>
      match es with
      | [e] => chk (Nat.ble (f + v.flat.length) sz && Nat.beq v.flat.length (P.cellsOf t) && Nat.beq fz 0 && cellsB v && Nat.blt 0 (P.cellsOf t))
        (k (⟨b, .row sz [setPart e f v] fz⟩ :: r))
      | _ => False
  | .ref b sz i f => rowAt σ b fun sz' es fz r =>
      chk (Nat.beq sz' sz && Nat.ble (f + v.flat.length) sz && Nat.beq v.flat.length (P.cellsOf t) && cellsB v && Nat.blt 0 (P.cellsOf t))
        (need (i < es.length ∧ fz ≤ i) (Elem1 es i fun e => k (⟨b, .row sz (es.set i (setPart e f v)) fz⟩ :: r)))
  | _ => False

def newV (v : PV) (n : Nat) (σ : Mem) (k : PV → Mem → Prop) : Prop :=
  chk (Nat.beq v.flat.length n && cellsB v) (New1 σ fun b => k (.bref b 0) (⟨b, .row n [v] 0⟩ :: σ))

/-- A struct that holds a pointer to one of its own kind first, and one part more: a builder. -/
def selfPtr (P : Program) (e : TypeId) : Bool :=
  match P.underlying e with
  | some (.struct fs) => match fs.toList with
    | [f, _] => match P.underlying f.type with
      | some (.pointer e') => Nat.beq e' e
      | _ => false
    | _ => false
  | _ => false
def allocV (P : Program) (e : TypeId) (v : PV) (σ : Mem) (k : PV → Mem → Prop) : Prop :=
  match selfPtr P e with
  | true => chk (Nat.beq v.flat.length (P.cellsOf e) && cellsB v) (New1 σ fun b => k (.tpt e (P.cellsOf e) b) (⟨b, .row (P.cellsOf e) [v] 0⟩ :: σ))
  | false => newV v (P.cellsOf e) σ k

def zeroV (P : Program) (t : TypeId) : PV :=
  match P.info? t with
  | some i => match i.zero with
    | some v => ofV v
    | none => .dead
  | none => .dead

def fieldsOf (P : Program) (t : TypeId) : Array Field :=
  match P.underlying t with
  | some (.struct fs) => fs
  | _ => #[]
def elemTy (P : Program) (t : TypeId) : TypeId :=
  match P.underlying t with
  | some (.slice e) => e
  | some (.array _ e) => e
  | _ => 0
def isSliceB (P : Program) (t : TypeId) : Bool :=
  match P.underlying t with
  | some (.slice _) => true
  | _ => false
def fillV (place : Nat → Option (Nat × Nat)) (cells : List PV) : List (Nat × PV) → Option (List PV)
  | [] => some cells
  | (i, v) :: rest =>
    match place i with
    | none => none
    | some (off, size) =>
      bif Nat.beq v.flat.length size && Nat.ble (off + size) cells.length && cellsB v then fillV place (splice cells off v.flat) rest else none
def builtV (P : Program) (t : TypeId) (parts : List (Nat × PV)) : Option (List PV) :=
  match P.info? t, P.underlying t with
  | some it, some (.array _ e) =>
    match it.zero, P.info? e with
    | some z, some ie => fillV (fun i => some (i * ie.size, ie.size)) (ofV z).flat parts
    | _, _ => none
  | some it, some (.struct fields) =>
    match it.zero, fields.toList.mapM (fun f => (P.info? f.type).map fun i => (f.offset, i.size)) with
    | some z, some places => fillV (places[·]?) (ofV z).flat parts
    | _, _ => none
  | _, _ => none
def buildV (P : Program) (t : TypeId) (parts : List (Nat × PV)) (k : PV → Prop) : Prop :=
  match builtV P t parts with
  | some cs => k (.agg cs)
  | none => False

def fieldAddrV (P : Program) (s : TypeId) (x : PV) (fld : Nat) (k : PV → Prop) : Prop :=
  match (fieldsOf P s)[fld]? with
  | some f =>
    match x with
    | .bref b o => chk (Nat.blt 0 (P.cellsOf f.type)) (k (.bref b (o + f.offset)))
    | .tpt _ _ b => chk (Nat.blt 0 (P.cellsOf f.type)) (k (.bref b f.offset))
    | .ref b sz i o => chk (Nat.blt 0 (P.cellsOf f.type)) (k (.ref b sz i (o + f.offset)))
    | .ip e o => chk (Nat.blt 0 (P.cellsOf f.type)) (k (.ip e (o + f.offset)))
    | _ => False
  | none => False

def fieldV (P : Program) (s : TypeId) (x : PV) (fld : Nat) (k : PV → Prop) : Prop :=
  match (fieldsOf P s)[fld]? with
  | some f =>
    match x with
    | .agg cs => chk (Nat.ble (f.offset + P.cellsOf f.type) cs.length && tyOk P f.type) (k (partV (isAggB P f.type) (P.cellsOf f.type) cs f.offset))
    | _ => False
  | none => False

def indexAddrV (P : Program) (t : TypeId) (x i : PV) (k : PV → Prop) : Prop :=
  match i with
  | .int _ n =>
    match P.underlying t with
    | some (.slice e) =>
      match x with
      | .sl sz es => chk (Nat.beq (P.cellsOf e) sz && Nat.blt 0 sz) (need (0 ≤ n ∧ n < es.length) (Nat1 n fun q => Elem1 es q fun e => k (.ip e 0)))
      | .rsl b sz j m => chk (Nat.beq (P.cellsOf e) sz && Nat.blt 0 sz) (need (0 ≤ n ∧ n < m) (Nat1 n fun q => k (.ref b sz (j + q) 0)))
      | _ => False
    | some (.array m e) =>
      match x with
      | .bref b f => chk (Nat.blt 0 (P.cellsOf e)) (need (0 ≤ n ∧ n < m) (k (.bref b (f + n.toNat * P.cellsOf e))))
      | .ref b sz j f => chk (Nat.blt 0 (P.cellsOf e)) (need (0 ≤ n ∧ n < m) (k (.ref b sz j (f + n.toNat * P.cellsOf e))))
      | .ip v f => chk (Nat.blt 0 (P.cellsOf e)) (need (0 ≤ n ∧ n < m) (k (.ip v (f + n.toNat * P.cellsOf e))))
      | _ => False
    | _ => False
  | _ => False

def indexV (P : Program) (t : TypeId) (x i : PV) (k : PV → Prop) : Prop :=
  match i with
  | .int _ n =>
    match x with
    | .str s => match P.underlying t with
      | some .string => need (0 ≤ n ∧ n < s.length) (Nat1 n fun q => Elem1 s q fun c => k (.int .u8 c.toNat))
      | _ => False
    | .agg cs => match P.underlying t with
      | some (.array m e) => chk (Nat.ble (m * P.cellsOf e) cs.length && tyOk P e) (need (0 ≤ n ∧ n < m) (k (partV (isAggB P e) (P.cellsOf e) cs (n.toNat * P.cellsOf e))))
      | _ => False
    | _ => False
  | _ => False

/-- The bounds of a slice expression over n elements. -/
def boundsT (hi mx : Option PV) (n : Nat) (l h : Int) (k : Nat → Nat → Prop) : Prop :=
  match mx with
  | none => need (0 ≤ l ∧ l ≤ h ∧ h ≤ n) (Nat1 l fun p => Nat1 h fun q => k p q)
  | some (.int _ m) => match hi with
    | some _ => need (0 ≤ l ∧ l ≤ h ∧ h ≤ m ∧ m ≤ n) (Nat1 l fun p => Nat1 h fun q => k p q)
    | none => False
  | _ => False
def boundsV (lo hi mx : Option PV) (n : Nat) (k : Nat → Nat → Prop) : Prop :=
  match (match lo with | some l => l | none => .int .i64 0), (match hi with | some h => h | none => .int .i64 n) with
  | .int _ l, .int _ h => boundsT hi mx n l h k
  | _, _ => False
def sliceV (P : Program) (t : TypeId) (x : PV) (lo hi mx : Option PV) (k : PV → Prop) : Prop :=
  match P.underlying t with
  | some .string => match x, mx with
    | .str s, none => boundsV lo hi none s.length fun l h => Lst1 ((s.take h).drop l) fun s' => k (.str s')
    | _, _ => False
  | some (.slice e) => match x with
    | .sl sz es => chk (Nat.beq (P.cellsOf e) sz && Nat.blt 0 sz) (boundsV lo hi mx es.length fun l h => Lst1 ((es.take h).drop l) fun es' => k (.sl sz es'))
    | .rsl b sz i n => chk (Nat.beq (P.cellsOf e) sz && Nat.blt 0 sz) (boundsV lo hi mx n fun l h => k (.rsl b sz (i + l) (h - l)))
    | .nils => chk (Nat.blt 0 (P.cellsOf e)) (boundsV lo hi mx 0 fun _ _ => k .nils)
    | _ => False
  | _ => False

def infoB (P : Program) (t : TypeId) : Bool :=
  match P.info? t with
  | some j => Nat.blt 0 j.size
  | none => false
def infoB0 (P : Program) (t : TypeId) : Bool := (P.info? t).isSome
def convV (P : Program) (src dst : TypeId) (x : PV) (k : PV → Prop) : Prop :=
  match P.underlying src, P.underlying dst with
  | some s, some d =>
    match x with
    | .int _ n => match d with
      | .int ik => inV ik n k
      | .string => k (.str (Utf8.encode n).data.toList)
      | _ => False
    | .str l => match d with
      | .string => k (.str l)
      | _ => False
    | .sl sz es => match s, d with
      | .slice e, .string => match P.underlying e with
        | some (.int .u8) => chk (Nat.beq sz 1) (∃ ns : List Int, es = ns.map (PV.int .u8) ∧ k (.str (ns.map fun n => UInt8.ofNat n.toNat)))
        | _ => False
      | _, _ => False
    | .nils => match s, d with
      | .slice e, .string => match P.underlying e with
        | some (.int .u8) => k (.str [])
        | _ => False
      | _, _ => False
    | .tpt e n b => match s, d with
      | .pointer t, .unsafePointer => chk (Nat.blt 0 n && infoB P t) (k (.tpt e n b))
      | .unsafePointer, .pointer u => chk (infoB0 P u && liesAt P P.depth e (n / P.cellsOf e) 0 u 1) (k (.tpt e n b))
      | _, _ => False
    | _ => False
  | _, _ => False

def minInts : List PV → IntKind → Int → Option PV
  | [], k, x => some (.int k x)
  | .int _ y :: r, k, x => minInts r k (if y < x then y else x)
  | _, _, _ => none
def maxInts : List PV → IntKind → Int → Option PV
  | [], k, x => some (.int k x)
  | .int _ y :: r, k, x => maxInts r k (if x < y then y else x)
  | _, _, _ => none

def lenV : PV → Option Nat
  | .str s => some s.length
  | .sl _ es => some es.length
  | .rsl _ _ _ n => some n
  | .nils => some 0
  | .bsl _ _ n => some n
  | _ => none

/-- What was there at the start is there as it was, and nothing of it is owned. -/
structure Pre (W : World) (σ : Mem) (w : World) : Prop where
  size : W.heap.size ≤ w.heap.size
  base : ∀ b, b < W.heap.size → w.heap[b]? = W.heap[b]?
  own : ∀ k ∈ σ, W.heap.size ≤ k.b

/-- A contract: the call returns, and what is answered and owned then is so. -/
structure ACalls (P : Program) (W : World) (f : FuncId) (args : List PV) (σ : Mem) (k : PV → Mem → Prop) : Prop where
  body : ∃ fn, P.funcs[f]? = some fn ∧ fn.body.isNone = false ∧ (fn.name == "runtime.NumGoroutine") = false
  run : ∀ (K : Kn) (w : World) (vs : List Value), args.length = vs.length → (∀ i, i < args.length → VRel K w (args.getD i .dead) (vs.getD i undef)) → SatM K σ w → Pre W σ w →
    Calls P f vs.toArray w fun e w' => ∃ v pv σ' K', e = .returned v ∧ k pv σ' ∧ VRel K' w' pv v ∧ SatM K' σ' w' ∧ Ext σ K w σ' K' w'

/-- The elements of a slice that is read. -/
def elemsOf (d : Nat) (x : PV) (σ : Mem) (k : Nat → List PV → Prop) : Prop :=
  match x with
  | .sl sz es => k sz es
  | .nils => k d []
  | .lit (.slice _ 0 _) => k d []
  | .rsl b sz i n => rowAt σ b fun sz' es _ _ => chk (Nat.beq sz' sz) (need (i + n ≤ es.length) (k sz ((es.drop i).take n)))
  | _ => False

def zeroOk (P : Program) (e : TypeId) : Bool := Nat.beq (zeroV P e).flat.length (P.cellsOf e) && cellsB (zeroV P e) && Nat.blt 0 (P.cellsOf e) && Nat.blt 0 (P.bytesOf e)
/-- the elements of a slice literal -/
def fillE (sz : Nat) (es : List PV) : List (Nat × PV) → Option (List PV)
  | [] => some es
  | (i, v) :: rest => bif Nat.beq v.flat.length sz && Nat.blt i es.length && cellsB v then fillE sz (es.set i v) rest else none
/-- All parts are there, one behind the other. -/
def seqOk (sz n : Nat) : Nat → List (Nat × PV) → Bool
  | j, [] => Nat.beq j n
  | j, (i, v) :: rest => Nat.beq i j && Nat.beq v.flat.length sz && cellsB v && seqOk sz n (j + 1) rest
def fillP (sz n : Nat) (z : PV) (parts : List (Nat × PV)) : Option (List PV) :=
  bif seqOk sz n 0 parts then some (parts.map Prod.snd) else fillE sz (List.replicate n z) parts
def buildSliceV (P : Program) (t : TypeId) (n : Nat) (parts : List (Nat × PV)) (k : Nat → List PV → Prop) : Prop :=
  match isSliceB P t with
  | true =>
    chk (Nat.ble (n * P.cellsOf (elemTy P t)) 16777216 && zeroOk P (elemTy P t))
      (match fillP (P.cellsOf (elemTy P t)) n (zeroV P (elemTy P t)) parts with
        | some es => k (P.cellsOf (elemTy P t)) es
        | none => False)
  | false => False

/-- A slice of the call's own; where it holds bytes, with its type. -/
def ownSl (P : Program) (e b sz n : Nat) : PV :=
  match P.underlying e with
  | some (.int .u8) => match sz with
    | 1 => .bsl e b n
    | _ => .rsl b sz 0 n
  | _ => .rsl b sz 0 n
def appendV (P : Program) (t : TypeId) (s x : PV) (σ : Mem) (k : PV → Mem → Prop) : Prop :=
  match P.underlying t with
  | some (.slice e) =>
    elemsOf (P.cellsOf e) x σ fun sz ys =>
      chk (Nat.beq sz (P.cellsOf e) && zeroOk P e) (need (ys.all cellsB = true)
        (match s with
          | .nils => litN (P.bytesOf e) fun B => need (ys.length * B ≤ 140737488355328) (match ys with | [] => k .nils σ | y :: ys' => New1 σ fun b => k (ownSl P e b (P.cellsOf e) (ys'.length + 1)) (⟨b, .row (P.cellsOf e) (y :: ys') 0⟩ :: σ))
          | .rsl b sz' i n => rowAt σ b fun sz'' es fz r =>
              chk (Nat.beq sz' (P.cellsOf e) && Nat.beq sz'' (P.cellsOf e)) (litN (P.bytesOf e) fun B => need (i = 0 ∧ n = es.length ∧ (n + ys.length) * B ≤ 140737488355328)
                (New2 b σ fun b' => k (.rsl b' (P.cellsOf e) 0 (n + ys.length)) (⟨b', .row (P.cellsOf e) (es ++ ys) fz⟩ :: r)))
          | .bsl e' b n => rowAt σ b fun sz'' es fz r =>
              chk (Nat.beq e' e && Nat.beq sz'' (P.cellsOf e) && Nat.beq (P.cellsOf e) 1) (litN (P.bytesOf e) fun B => need (n = es.length ∧ (n + ys.length) * B ≤ 140737488355328)
                (New2 b σ fun b' => k (.bsl e b' (n + ys.length)) (⟨b', .row (P.cellsOf e) (es ++ ys) fz⟩ :: r)))
          | _ => False))
  | _ => False

def copyV (P : Program) (t : TypeId) (d x : PV) (σ : Mem) (k : PV → Mem → Prop) : Prop :=
  match P.underlying t with
  | some (.slice e) =>
    elemsOf (P.cellsOf e) x σ fun sz ys =>
      match d with
      | .rsl b sz' i n => rowAt σ b fun sz'' es fz r =>
          chk (Nat.beq sz (P.cellsOf e) && Nat.beq sz' (P.cellsOf e) && Nat.beq sz'' (P.cellsOf e) && Nat.blt 0 (P.cellsOf e)) (need (i + n ≤ es.length ∧ ys.all cellsB = true ∧ fz ≤ i)
            (k (.int .i64 (min n ys.length : Nat)) (⟨b, .row (P.cellsOf e) (es.take i ++ ys.take n ++ es.drop (i + min n ys.length)) fz⟩ :: r)))
      | _ => False
  | _ => False

def clearV (P : Program) (t : TypeId) (x : PV) (σ : Mem) (k : PV → Mem → Prop) : Prop :=
  match P.underlying t with
  | some (.slice e) =>
    match x with
    | .rsl b sz i n => rowAt σ b fun sz' es fz r =>
        chk (Nat.beq sz (P.cellsOf e) && Nat.beq sz' sz && zeroOk P e) (need (i + n ≤ es.length ∧ fz ≤ i)
          (k (.tup []) (⟨b, .row sz (es.take i ++ List.replicate n (zeroV P e) ++ es.drop (i + n)) fz⟩ :: r)))
    | _ => False
  | _ => False

def makeV (P : Program) (t : TypeId) (l c : PV) (σ : Mem) (k : PV → Mem → Prop) : Prop :=
  match P.underlying t with
  | some (.slice e) =>
    match l, c with
    | .int _ n, .int _ m =>
      chk (zeroOk P e) (litN (P.bytesOf e) fun B => need (0 ≤ n ∧ n ≤ m ∧ m ≤ 9223372036854775807 ∧ (B : Int) * m ≤ 281474976710656)
        (Nat1 n fun q => New1 σ fun b => k (.rsl b (P.cellsOf e) 0 q) (⟨b, .row (P.cellsOf e) (List.replicate q (zeroV P e)) 0⟩ :: σ)))
    | _, _ => False
  | _ => False

def ptrTo (P : Program) (t : TypeId) : Option TypeId :=
  match P.underlying t with
  | some (.pointer e) => some e
  | _ => none
/-- The bytes of a row of the call's own become a string; the row is the call's own no more. -/
inductive StrAt (P : Program) (σ : Mem) (b e pt : Nat) (n : Int) (k : PV → Mem → Prop) : Prop
  | mk (es : List PV) (fz : Nat) (r : Mem) (s : List UInt8) (hl : Look σ b (.row 1 es fz) r) (hn : n = s.length) (h0 : s ≠ []) (h63 : n ≤ 9223372036854775807) (he : ptrTo P pt = some e) (h8 : P.underlying e = some (.int .u8)) (h1 : P.cellsOf e = 1)
      (hs : es.take s.length = s.map fun c => PV.int .u8 c.toNat) (h : k (.str s) r)
def builtinV (P : Program) (b : Builtin) (ts : Array TypeId) (args : List PV) (σ : Mem) (k : PV → Mem → Prop) : Prop :=
  match b, args with
  | .len, [x] => match ts[0]? with
    | some t => match P.underlying t with
      | some (.array n _) => k (.int .i64 n) σ
      | some .string => match x with
        | .str s => k (.int .i64 s.length) σ
        | _ => False
      | some (.slice _) => match x with
        | .sl _ es => k (.int .i64 es.length) σ
        | .rsl _ _ _ n => k (.int .i64 n) σ
        | .nils => k (.int .i64 0) σ
        | .bsl _ _ n => k (.int .i64 n) σ
        | _ => False
      | _ => False
    | none => False
  | .min, .int ik x :: r => match minInts r ik x with
    | some v => k v σ
    | none => False
  | .max, .int ik x :: r => match maxInts r ik x with
    | some v => k v σ
    | none => False
  | .append, [s, x] => match ts[0]?, ts[1]? with
    | some t, some t2 => match isSliceB P t2 with
      | true => appendV P t s x σ k
      | false => False
    | _, _ => False
  | .copy, [d, x] => match ts[0]? with
    | some t => copyV P t d x σ k
    | none => False
  | .clear, [x] => match ts[0]? with
    | some t => clearV P t x σ k
    | none => False
  | .unsafeSliceData, [x] => match x with
    | .nils => k (.lit (.pointer none)) σ
    | .bsl e b n => need (0 < n) (k (.bpt e b) σ)
    | _ => False
  | .unsafeString, [p, n] => match n with
    | .int .i64 n => match ts.toList with
      | [pt, _] => match p with
        | .lit (.pointer none) => need (n = 0) (k (.str []) σ)
        | .bpt e b => StrAt P σ b e pt n k
        | _ => False
      | _ => False
    | _ => False
  | _, _ => False

/-- Equality of structs, of addresses and of what holds methods: by a law that is given at the place. -/
structure EqLaw (P : Program) (op : BinOp) (t : TypeId) (xo yo : Operand) (x y : PV) (r : Bool) : Prop where
  run : ∀ (K : Kn) (w : World) (u v : Value), VRel K w x u → VRel K w y v →
    (do eqGuard op t xo yo u v; binOp op t u v : Sem Value).run P w = .ok (.bool r) w

def isPlain : PV → Bool
  | .bool _ => true | .int _ _ => true | .str _ => true | _ => false

inductive IterAt (σ : Mem) (b : Nat) (k : PV → Mem → Prop) : Prop
  | mk (s : List UInt8) (pos : Nat) (r : Mem) (hl : Look σ b (.iter s pos) r)
      (h1 : pos < s.length → k (.tup [.bool true, .int .i64 pos, .int .i32 (Utf8.decode ⟨s.toArray⟩ pos).1]) (⟨b, .iter s (pos + (Utf8.decode ⟨s.toArray⟩ pos).2)⟩ :: r))
      (h2 : ¬ pos < s.length → k (.tup [.bool false]) σ)
def nextV (x : PV) (str : Bool) (σ : Mem) (k : PV → Mem → Prop) : Prop :=
  match x, str with
  | .bref b 0, true => IterAt σ b k
  | _, _ => False

/-- A reading in a map: by a law that is given at the place. -/
structure LookLaw (P : Program) (t : TypeId) (x i : PV) (ok : Bool) (σ : Mem) (r : PV) : Prop where
  run : ∀ (K : Kn) (w : World) (u v : Value), SatM K σ w → VRel K w x u → VRel K w i v → ∃ z, (Instr.lookup t u v ok).run P w = .ok z w ∧ VRel K w r z
/-- No entry has this key yet. -/
def newKey (i : PV) : List (PV × PV) → Bool
  | [] => true
  | (j, _) :: es => match i, j with
    | .int k n, .int k' m => kEq k k' && !decide (n = m) && newKey i es
    | .str a, .str b => !decide (a = b) && newKey i es
    | _, _ => false
def plainKey (P : Program) (t : TypeId) (i : PV) : Bool :=
  match P.underlying t with
  | some (.map kt _) => match P.underlying kt, i with
    | some (.int k), .int k' _ => kEq k k'
    | some .string, .str _ => true
    | _, _ => false
  | _ => false
inductive MapAt (σ : Mem) (b : Nat) (k : List (PV × PV) → Mem → Prop) : Prop
  | mk (es : List (PV × PV)) (r : Mem) (hl : Look σ b (.mpc es) r) (h : k es r)
def insV (P : Program) (t : TypeId) (m i v : PV) (σ : Mem) (k : Mem → Prop) : Prop :=
  match m with
  | .mp b => MapAt σ b fun es r => chk (plainKey P t i) (need (newKey i es = true) (k (⟨b, .mpc (es ++ [(i, v)])⟩ :: r)))
  | _ => False
def isMapB (P : Program) (t : TypeId) : Bool :=
  match P.underlying t with
  | some (.map _ _) => true
  | _ => false
/-- An operation whose law is given at the place. -/
structure OpLaw (P : Program) (W : World) (o : Op) (env : Env) (σ : Mem) (k : PV → Mem → Prop) : Prop where
  run : ∀ (o' : Oper) (K : Kn) (w : World) (a : Act) (next : Act → World → Prop) (Q : Exit → Act → World → Prop), o'.op = o → SatM K σ w → Pre W σ w → (∀ x ∈ o.operands, VRel K w (ev env x) (a.eval x)) →
    (∀ v pv σ' K' w', k pv σ' → VRel K' w' pv v → SatM K' σ' w' → Ext σ K w σ' K' w' → next (a.put o'.dst v) w') → o'.wp P a w next Q
/-- A function that has no body here: by a law that is given at the place. -/
def isExt (P : Program) (g : FuncId) : Bool :=
  match P.funcs[g]? with
  | some fn => fn.body.isNone
  | none => false
structure ExtLaw (P : Program) (g : FuncId) (args : List PV) (r : PV) : Prop where
  run : ∀ (K : Kn) (w : World) (vs : List Value), args.length = vs.length → (∀ i, i < args.length → VRel K w (args.getD i .dead) (vs.getD i undef)) → ∃ v, (callFunc g vs.toArray).run P w = .ok (.value v) w ∧ VRel K w r v
def callV (P : Program) (W : World) (g : FuncId) (args : List PV) (σ : Mem) (k : PV → Mem → Prop) : Prop :=
  match isExt P g with
  | true => ∃ r, ExtLaw P g args r ∧ k r σ
  | false => ACalls P W g args σ k
theorem callV_of {P : Program} {W : World} {g : FuncId} {args : List PV} {σ : Mem} {k : PV → Mem → Prop} (h : ACalls P W g args σ k) : callV P W g args σ k := by
  obtain ⟨fn, h1, h2, _⟩ := h.body
  have : isExt P g = false := by unfold isExt; rw [h1]; exact h2
  unfold callV
  rw [this]; exact h
/-- What holds one of two values; one of them is there only where a test says so. -/
def pickV (t : Bool) (a b : PV) (k : PV → Prop) : Prop :=
  match a with
  | .opt y v => match v with
    | .bool v => match b with
      | .bool w => need (t = true → y = true) (match w with
        | false => k (.bool (t && v))
        | true => k (.bool (!t || v)))
      | _ => False
    | _ => False
  | .tup l => match l with
    | [] => need (t = false) (k b)
    | _ => False
  | a => match b with
    | .opt y v => match v with
      | .bool v => match a with
        | .bool u => need (t = false → y = true) (match u with
          | true => k (.bool (t || v))
          | false => k (.bool (!t && v)))
        | _ => False
      | _ => False
    | .tup l => match l with
      | [] => need (t = true) (k a)
      | _ => False
    | b => k (match t with | true => a | false => b)
def opV (P : Program) (W : World) (o : Op) (env : Env) (σ : Mem) (k : PV → Mem → Prop) : Prop :=
  match o with
  | .move x => k (ev env x) σ
  | .assign x => k (ev env x) σ
  | .pick c a b => match ev env c with
    | .bool t => pickV t (ev env a) (ev env b) fun v => k v σ
    | _ => False
  | .alloc e => allocV P e (zeroV P e) σ k
  | .box e x => newV (ev env x) (P.cellsOf e) σ k
  | .build t ps => buildV P t (ps.toList.map fun p => (p.1, ev env p.2)) fun v => k v σ
  | .buildSlice t n ps => buildSliceV P t n (ps.toList.map fun p => (p.1, ev env p.2)) fun sz es => k (.sl sz es) σ ∨ New1 σ fun b => k (.rsl b sz 0 es.length) (⟨b, .row sz es 0⟩ :: σ)
  | .load t x => loadV P t (ev env x) σ fun v => k v σ
  | .store t x v => storeV P t (ev env x) (ev env v) σ fun σ' => k .dead σ'
  | .nilCheck x => match ev env x with
    | .bref b f => k (.bref b f) σ
    | .tpt e n b => k (.tpt e n b) σ
    | .ref b sz i f => k (.ref b sz i f) σ
    | .ip e f => k (.ip e f) σ
    | .fn f cs => k (.fn f cs) σ
    | _ => False
  | .binOp op t x y _ =>
    match isPlain (ev env x) && isPlain (ev env y) with
    | true => binV P t op (ev env x) (ev env y) fun v => k v σ
    | false => ∃ r, EqLaw P op t x y (ev env x) (ev env y) r ∧ k (.bool r) σ
  | .unOp op _ x => unV op (ev env x) fun v => k v σ
  | .convert s d x => convV P s d (ev env x) fun v => k v σ
  | .makeInterface t x => match P.underlying t with
    | some (.interface _) => False
    | some _ => k (.ifc t (ev env x)) σ
    | none => False
  | .makeFunc (.func f) first cap => match first.toList with
    | [] => k (.fn f (cap.toList.map (ev env))) σ
    | _ => False
  | .makeSlice t l c => makeV P t (ev env l) (ev env c) σ k
  | .slice t x lo hi mx => sliceV P t (ev env x) (evO env lo) (evO env hi) (evO env mx) fun v => k v σ
  | .fieldAddr s x f => fieldAddrV P s (ev env x) f fun v => k v σ
  | .field t x f => fieldV P t (ev env x) f fun v => k v σ
  | .indexAddr t x i => indexAddrV P t (ev env x) (ev env i) fun v => k v σ
  | .index t x i => indexV P t (ev env x) (ev env i) fun v => k v σ
  | .range t x => match P.underlying t, ev env x with
    | some .string, .str s => New1 σ fun b => k (.bref b 0) (⟨b, .iter s 0⟩ :: σ)
    | _, _ => False
  | .next x str => nextV (ev env x) str σ k
  | .extract x i => match ev env x with
    | .tup vs => chk (Nat.blt i vs.length) (k (vs.getD i .dead) σ)
    | _ => False
  | .call c => match c.callee with
    | .value f => match ev env f with
      | .fn g cap => callV P W g (c.args.toList.map (ev env) ++ cap) σ k
      | _ => False
    | .builtin b => builtinV P b c.argTypes (c.args.toList.map (ev env)) σ k
    | _ => False
  | .lookup t x i ok => ∃ r, LookLaw P t (ev env x) (ev env i) ok σ r ∧ k r σ
  | .makeMap t r => match r with
    | none => New1 σ fun b => k (.mp b) (⟨b, .mpc []⟩ :: σ)
    | some x => match ev env x with
      | .int _ _ => chk (isMapB P t) (New1 σ fun b => k (.mp b) (⟨b, .mpc []⟩ :: σ))
      | _ => False
  | .insert t m i v => insV P t (ev env m) (ev env i) (ev env v) σ fun σ' => k .dead σ'
  | .mapUpdate t m i v => insV P t (ev env m) (ev env i) (ev env v) σ fun σ' => k .dead σ'
  | .typeAssert x s t ok => OpLaw P W (.typeAssert x s t ok) env σ k
  | _ => False

/-- What a guard has said. -/
def guardV (ops : Array Oper) (env : Env) (j : Nat) : Option Bool :=
  match ops[j]? with
  | some o => match o.dst with
    | some d => match env d with
      | .bool b => some b
      | _ => none
    | none => none
  | none => none

/-- The same, where what is asked stands under a test itself: whether it was run and said so. -/
def guardW (ops : Array Oper) (env : Env) (j : Nat) (want : Bool) : Option Bool :=
  match ops[j]? with
  | some o => match o.dst with
    | some d => match env d with
      | .bool b => some b
      | .opt c v => match v with
        | .bool b => match want with
          | true => some (c && b)
          | false => some (!c || b)
        | _ => none
      | _ => none
    | none => none
  | none => none
/-- What an operation reads that stands under a test: each part is there where the test is so. -/
def optOk (G : Prop) (env : Env) : List Operand → Prop
  | [] => True
  | .tmp t :: r => match env t with
    | .opt c _ => need (G → c = true) (optOk G env r)
    | _ => optOk G env r
  | _ :: r => optOk G env r
structure needO (c : Prop) (k : Prop) : Prop where
  mk ::
  cond : c
  rest : k
def unO : PV → PV
  | .opt _ v => v
  | v => v
def envU (env : Env) : Env := fun t => unO (env t)
/-- What is read in any case: of a choice, what it hangs on. -/
def opndsG (o : Op) : List Operand :=
  match o with
  | .pick c _ _ => [c]
  | o => o.operands.toList
def envG (o : Op) (env : Env) : Env :=
  match o with
  | .pick c _ _ => match c with
    | .tmp t => upd env t (unO (env t))
    | _ => env
  | _ => envU env
def beqB (x want : Bool) : Bool :=
  match want with
  | true => x
  | false => !x
theorem beqB_spec {x want : Bool} (h : beqB x want = true) : x = want := by cases want <;> cases x <;> simp_all [beqB]
inductive GuardC (A B : Prop) : Prop
  | part (h : A)
  | spec (h : B)
/-- What is asked was passed over itself. -/
def guardU (ops : Array Oper) (env : Env) (j : Nat) : Bool :=
  match ops[j]? with
  | some o => match o.dst with
    | some d => match env d with
      | .tup [] => true
      | _ => false
    | none => false
  | none => false

def vcOps (P : Program) (W : World) (ops : Array Oper) (Q : Env → Mem → Prop) : List Oper → Env → Mem → Prop
  | [], env, σ => Q env σ
  | o :: r, env, σ =>
    match o.guard with
    | none => opV P W o.op env σ fun v σ' => vcOps P W ops Q r (updO env o.dst v) σ'
    | some (j, want) =>
      match guardW ops env j want with
      | some x => match want with
        | true => GuardC (@Bool.rec (fun _ => Prop) (vcOps P W ops Q r (updO env o.dst (.tup [])) σ) (needO (optOk True env (opndsG o.op)) (opV P W o.op (envG o.op env) σ fun v σ' => vcOps P W ops Q r (updO env o.dst v) σ')) x)
          (∃ pv, optOk (x = want) env (opndsG o.op) ∧ (x = want → opV P W o.op (envG o.op env) σ fun v σ' => v = pv ∧ σ' = σ) ∧ vcOps P W ops Q r (updO env o.dst (.opt (beqB x want) pv)) σ)
        | false => GuardC (@Bool.rec (fun _ => Prop) (needO (optOk True env (opndsG o.op)) (opV P W o.op (envG o.op env) σ fun v σ' => vcOps P W ops Q r (updO env o.dst v) σ')) (vcOps P W ops Q r (updO env o.dst (.tup [])) σ) x)
          (∃ pv, optOk (x = want) env (opndsG o.op) ∧ (x = want → opV P W o.op (envG o.op env) σ fun v σ' => v = pv ∧ σ' = σ) ∧ vcOps P W ops Q r (updO env o.dst (.opt (beqB x want) pv)) σ)
      | none => chk (guardU ops env j) (vcOps P W ops Q r (updO env o.dst (.tup [])) σ)

/-! ### The same, with values that are reckoned before they are put away -/
def forceL : List PV → (List PV → Prop) → Prop
  | [], k => k []
  | x :: l, k => forceL l fun l' => k (x :: l')
theorem forceL_eq : ∀ (l : List PV) (k : List PV → Prop), forceL l k = k l
  | [], _ => rfl
  | x :: l, k => by rw [forceL, forceL_eq l]
def forceV (v : PV) (k : PV → Prop) : Prop :=
  match v with
  | .bool b => k (.bool b)
  | .int kk n => k (.int kk n)
  | .str s => k (.str s)
  | .lit v => k (.lit v)
  | .sl sz es => k (.sl sz es)
  | .nils => k .nils
  | .ip e f => litN f fun f => k (.ip e f)
  | .bref b f => litN f fun f => k (.bref b f)
  | .ref b sz i f => litN f fun f => k (.ref b sz i f)
  | .rsl b sz i n => k (.rsl b sz i n)
  | .bsl e b n => k (.bsl e b n)
  | .bpt e b => k (.bpt e b)
  | .tpt e n b => litN n fun n => k (.tpt e n b)
  | .agg cs => forceL cs fun cs => k (.agg cs)
  | .tup vs => forceL vs fun vs => k (.tup vs)
  | .fn f cap => k (.fn f cap)
  | .ifc t v => k (.ifc t v)
  | .mp b => k (.mp b)
  | .opt c v => k (.opt c v)
  | .dead => k .dead
theorem forceV_eq (v : PV) (k : PV → Prop) : forceV v k = k v := by cases v <;> first | rfl | exact forceL_eq _ _ | (simp only [forceV, litN_eq])
def partsF (env : Env) : List (Nat × Operand) → (List (Nat × PV) → Prop) → Prop
  | [], k => k []
  | p :: r, k => forceV (ev env p.2) fun v => partsF env r fun vs => k ((p.1, v) :: vs)
theorem partsF_eq (env : Env) : ∀ (l : List (Nat × Operand)) (k : List (Nat × PV) → Prop), partsF env l k = k (l.map fun p => (p.1, ev env p.2))
  | [], _ => rfl
  | p :: r, k => by rw [partsF, forceV_eq, partsF_eq env r]; rfl
def argsF (env : Env) : List Operand → (List PV → Prop) → Prop
  | [], k => k []
  | x :: r, k => forceV (ev env x) fun v => argsF env r fun vs => k (v :: vs)
theorem argsF_eq (env : Env) : ∀ (l : List Operand) (k : List PV → Prop), argsF env l k = k (l.map (ev env))
  | [], _ => rfl
  | x :: r, k => by rw [argsF, forceV_eq, argsF_eq env r]; rfl
def putF (env : Env) (dst : Option Nat) (v : PV) (k : Env → Prop) : Prop :=
  match dst with
  | some t => k (upd env t v)
  | none => k env
theorem putF_eq (env : Env) (dst : Option Nat) (v : PV) (k : Env → Prop) : putF env dst v k = k (updO env dst v) := by cases dst <;> rfl
def setPartF (e : PV) (f : Nat) (v : PV) (k : PV → Prop) : Prop :=
  match e with
  | .agg cs => forceL (splice cs f v.flat) fun cs => k (.agg cs)
  | _ => k v
theorem setPartF_eq (e : PV) (f : Nat) (v : PV) (k : PV → Prop) : setPartF e f v k = k (setPart e f v) := by cases e <;> first | rfl | exact forceL_eq _ _
def storeF (P : Program) (t : TypeId) (x v : PV) (σ : Mem) (k : Mem → Prop) : Prop :=
  match x with
  | .bref b f => rowAt σ b fun sz es fz r =>
      match es with
      | [e] => chk (Nat.ble (f + v.flat.length) sz && Nat.beq v.flat.length (P.cellsOf t) && Nat.beq fz 0 && cellsB v && Nat.blt 0 (P.cellsOf t))
        (setPartF e f v fun e' => k (⟨b, .row sz [e'] fz⟩ :: r))
      | _ => False
  | .ref b sz i f => rowAt σ b fun sz' es fz r =>
      chk (Nat.beq sz' sz && Nat.ble (f + v.flat.length) sz && Nat.beq v.flat.length (P.cellsOf t) && cellsB v && Nat.blt 0 (P.cellsOf t))
        (need (i < es.length ∧ fz ≤ i) (Elem1 es i fun e => setPartF e f v fun e' => k (⟨b, .row sz (es.set i e') fz⟩ :: r)))
  | _ => False
theorem storeF_eq (P : Program) (t : TypeId) (x v : PV) (σ : Mem) (k : Mem → Prop) : storeF P t x v σ k = storeV P t x v σ k := by
  cases x <;> first
    | rfl
    | (simp only [storeF, storeV, setPartF_eq]; done)
    | (simp only [storeF, storeV]; congr; funext sz es fz r; rcases es with _ | ⟨e, _ | ⟨e2, r2⟩⟩ <;> first | rfl | simp only [setPartF_eq])
def opF (P : Program) (W : World) (o : Op) (env : Env) (σ : Mem) (k : PV → Mem → Prop) : Prop :=
  match o with
  | .build t ps => partsF env ps.toList fun parts => buildV P t parts fun v => k v σ
  | .buildSlice t n ps => partsF env ps.toList fun parts => buildSliceV P t n parts fun sz es => forceL es fun es => k (.sl sz es) σ ∨ New1 σ fun b => k (.rsl b sz 0 es.length) (⟨b, .row sz es 0⟩ :: σ)
  | .lookup t x i ok => forceV (ev env x) fun x => forceV (ev env i) fun i => ∃ r, LookLaw P t x i ok σ r ∧ k r σ
  | .insert t m i v => forceV (ev env m) fun m => forceV (ev env i) fun i => forceV (ev env v) fun v => insV P t m i v σ fun σ' => k .dead σ'
  | .store t x v => forceV (ev env v) fun v => storeF P t (ev env x) v σ fun σ' => k .dead σ'
  | .alloc e => forceV (zeroV P e) fun v => allocV P e v σ k
  | .box e x => forceV (ev env x) fun v => newV v (P.cellsOf e) σ k
  | .call c => match c.callee with
    | .value f => match ev env f with
      | .fn g cap => argsF env c.args.toList fun as => forceL (as ++ cap) fun as => callV P W g as σ k
      | _ => False
    | .builtin b => argsF env c.args.toList fun as => builtinV P b c.argTypes as σ k
    | _ => False
  | o => opV P W o env σ k
theorem opF_eq (P : Program) (W : World) (o : Op) (env : Env) (σ : Mem) (k : PV → Mem → Prop) : opF P W o env σ k = opV P W o env σ k := by
  cases o <;> first
    | rfl
    | (simp only [opF, opV, partsF_eq, forceV_eq, forceL_eq, storeF_eq, argsF_eq]; done)
    | (rename_i c; simp only [opF, opV, argsF_eq, forceL_eq])
def optF (x want : Bool) (pv : PV) (k : PV → Prop) : Prop :=
  match want with
  | true => k (.opt x pv)
  | false => k (.opt (!x) pv)
theorem optF_eq (x want : Bool) (pv : PV) (k : PV → Prop) : optF x want pv k = k (.opt (beqB x want) pv) := by cases want <;> rfl
theorem not_of_false {x : Bool} (h : x = false) : (!x) = true := by subst h; rfl
def vcStepF (P : Program) (W : World) (ops : Array Oper) (o : Oper) (rest : Env → Mem → Prop) (env : Env) (σ : Mem) : Prop :=
  match o.guard with
  | none => opF P W o.op env σ fun v σ' => forceV v fun v => putF env o.dst v fun env' => rest env' σ'
  | some (j, want) =>
    match guardW ops env j want with
    | some x => match want with
      | true => GuardC (@Bool.rec (fun _ => Prop) (putF env o.dst (.tup []) fun env' => rest env' σ) (needO (optOk True env (opndsG o.op)) (opF P W o.op (envG o.op env) σ fun v σ' => forceV v fun v => putF env o.dst v fun env' => rest env' σ')) x)
        (∃ pv, optOk (x = want) env (opndsG o.op) ∧ (x = want → opF P W o.op (envG o.op env) σ fun v σ' => forceV v fun v => v = pv ∧ σ' = σ) ∧ optF x want pv fun v => putF env o.dst v fun env' => rest env' σ)
      | false => GuardC (@Bool.rec (fun _ => Prop) (needO (optOk True env (opndsG o.op)) (opF P W o.op (envG o.op env) σ fun v σ' => forceV v fun v => putF env o.dst v fun env' => rest env' σ')) (putF env o.dst (.tup []) fun env' => rest env' σ) x)
        (∃ pv, optOk (x = want) env (opndsG o.op) ∧ (x = want → opF P W o.op (envG o.op env) σ fun v σ' => forceV v fun v => v = pv ∧ σ' = σ) ∧ optF x want pv fun v => putF env o.dst v fun env' => rest env' σ)
    | none => chk (guardU ops env j) (putF env o.dst (.tup []) fun env' => rest env' σ)
def vcOpsF (P : Program) (W : World) (ops : Array Oper) (Q : Env → Mem → Prop) (l : List Oper) : Env → Mem → Prop :=
  @List.rec Oper (fun _ => Env → Mem → Prop) Q (fun o _ ih => vcStepF P W ops o ih) l
theorem vcOpsF_eq (P : Program) (W : World) (ops : Array Oper) (Q : Env → Mem → Prop) : ∀ (l : List Oper) (env : Env) (σ : Mem), vcOpsF P W ops Q l env σ = vcOps P W ops Q l env σ
  | [], _, _ => rfl
  | o :: r, env, σ => by
    have ih := vcOpsF_eq P W ops Q r
    show vcStepF P W ops o (vcOpsF P W ops Q r) env σ = _
    simp only [vcStepF, vcOps, forceV_eq, putF_eq, opF_eq, optF_eq, ih]

/-- An environment of which just these slots are known. -/
def mkEnv : List (Nat × PV) → Env
  | [], _ => .dead
  | (t, v) :: r, x => bif Nat.beq x t then v else mkEnv r x
/-- What is known of it. -/
def wkEnv (env : Env) : List (Nat × PV) → Prop
  | [] => True
  | (t, v) :: r => env t = v ∧ wkEnv env r

/-- What is owned is this, or more. -/
def wkMem (σ τ : Mem) : Prop := ∃ ρ, σ.Perm (τ ++ ρ)

/-- So many rounds at most. -/
def loopN (body : (Exit → Env → Mem → Prop) → Env → Mem → Prop) (Q : Exit → Env → Mem → Prop) : Nat → Env → Mem → Prop
  | 0, _, _ => False
  | n + 1, env, σ => body (fun e env' σ' => match e with
      | .normal => loopN body Q n env' σ'
      | e => Q e env' σ') env σ
inductive Loops (A B : Prop) : Prop
  | run (h : A)
  | inv (h : B)
def loopV (body : (Exit → Env → Mem → Prop) → Env → Mem → Prop) (Q : Exit → Env → Mem → Prop) (env : Env) (σ : Mem) : Prop := Loops (∃ n, loopN body Q n env σ) <|
  ∃ (α : Type) (L : α → List (Nat × PV)) (M : α → Mem) (R : α → Prop) (μ : α → Nat),
    (∃ x, R x ∧ wkEnv env (L x) ∧ wkMem σ (M x)) ∧
    ∀ x, R x → body (fun e env' σ' => match e with
      | .normal => ∃ y, R y ∧ μ y < μ x ∧ wkEnv env' (L y) ∧ wkMem σ' (M y)
      | e => Q e env' σ') (mkEnv (L x)) (M x)

/-- A test: each way goes on by itself, or both come together first. -/
inductive CondC (A B : Prop) : Prop
  | part (h : A)
  | join (h : B)
abbrev VC := (Exit → Env → Mem → Prop) → Env → Mem → Prop
def vcSeq (a b : VC) : VC := fun Q env σ => a (fun e env σ => match e with | .normal => b Q env σ | e => Q e env σ) env σ
def vcCond (c : Operand) (a b : VC) : VC := fun Q env σ =>
  match ev env c with
  | .bool x => CondC (@Bool.rec (fun _ => Prop) (b Q env σ) (a Q env σ) x)
      (∃ (α : Type) (L : α → List (Nat × PV)) (M : α → Mem) (R : α → Prop),
        @Bool.rec (fun _ => Prop) (b (fun e env' σ' => match e with | .normal => ∃ y, R y ∧ wkEnv env' (L y) ∧ wkMem σ' (M y) | e => Q e env' σ') env σ)
          (a (fun e env' σ' => match e with | .normal => ∃ y, R y ∧ wkEnv env' (L y) ∧ wkMem σ' (M y) | e => Q e env' σ') env σ) x ∧
        ∀ y, R y → Q .normal (mkEnv (L y)) (M y))
  | _ => False
def vcBlock (id : Nat) (a : VC) : VC := fun Q env σ => a (fun e env σ => match e with
  | .exit j => bif Nat.beq j id then Q .normal env σ else Q (.exit j) env σ
  | e => Q e env σ) env σ
def vcRegion (P : Program) (W : World) (D : Array Oper → (Env → Mem → Prop) → Env → Mem → Prop) (ops : Array Oper) (draw : Bool) : VC := fun Q env σ =>
  match draw with
  | false => vcOpsF P W ops (Q .normal) ops.toList env σ
  | true => D ops (Q .normal) env σ
/-- The condition of a piece of code; what a draw asks is filled in by part 12. -/
def vc (P : Program) (W : World) (D : Array Oper → (Env → Mem → Prop) → Env → Mem → Prop) (c : Code) : VC :=
  @Code.rec (fun _ => VC)
    (fun Q env σ => Q .normal env σ)
    (fun _ ops draw => vcRegion P W D ops draw)
    (fun _ _ a b => vcSeq a b)
    (fun c _ _ a b => vcCond c a b)
    (fun id _ a => vcBlock id a)
    (fun _ a Q env σ => loopV a Q env σ)
    (fun _ _ _ _ _ _ _ _ _ => False)
    (fun id Q env σ => Q (.exit id) env σ)
    (fun _ _ _ _ _ => False)
    (fun _ Q env σ => Q .normal env σ)
    (fun _ _ _ _ => False)
    (fun Q env σ => Q .ret env σ)
    (fun _ _ _ _ => False) c
end Go.Eng
