/- A PART OF THE PROOF. NO CONDITION. -/
import Derived.Orders
import Derived.KernelRfl
import Derived.Laws.Sem
set_option linter.unusedVariables false
set_option linter.unusedSimpArgs false
namespace Go.SX

/-- symbolic values -/
inductive SV : Type 1 where
  | any
  | tt
  | ff
  | e0
  /-- some value of one cell -/
  | one
  | val (v : Value)
  | ptr (key off : Nat)
  | ptrE (key e : Nat)
  | row (key k i off : Nat)
  | rowE (key k i e : Nat)
  | sl (key k o len : Nat)
  | ro (α : Type) (d : α) (enc : α → List SV) (xs : List α)
  | rop (α : Type) (d : α) (enc : α → List SV) (xs : List α) (i off : Nat)
  | ropE (α : Type) (d : α) (enc : α → List SV) (xs : List α) (i e : Nat)
  | agg (cs : List SV)
  | tup (cs : List SV)
  | clo (f : Nat) (caps : List SV)
  | mapv (key : Nat)

/-- owned blocks -/
inductive LB : Type 1 where
  | cells (cs : List SV)
  | arr (α : Type) (d : α) (enc : α → List SV) (xs : List α)
  /-- a map: are its keys structs; of how many cells is a key; the entries -/
  | mp (isA : Bool) (n : Nat) (α : Type) (d : α) (enc : α → List SV) (es : List (List Int × α))
  /-- a block of that number, that holds an object made of such values -/
  | objAt (b : Nat) (svs : List SV) (mk : Array Value → Obj)

abbrev Bl := List (Nat × LB)

def Bl.get : Bl → Nat → Option LB
  | [], _ => none
  | (k, b) :: r, j => match Nat.beq k j with | true => some b | false => Bl.get r j
def Bl.del : Bl → Nat → Bl
  | [], _ => []
  | (k, b) :: r, j => match Nat.beq k j with | true => Bl.del r j | false => (k, b) :: Bl.del r j
def Bl.set : Bl → Nat → LB → Bl
  | [], _, _ => []
  | (k, b) :: r, j, c => match Nat.beq k j with | true => (k, c) :: r | false => (k, b) :: Bl.set r j c
def Bl.ins : Bl → Nat → LB → Bl
  | [], j, c => [(j, c)]
  | (k, b) :: r, j, c => match Nat.blt j k with | true => (j, c) :: (k, b) :: r | false => (k, b) :: Bl.ins r j c
def Bl.has (B : Bl) (j : Nat) : Bool := match Bl.get B j with | some _ => true | none => false

structure TI where
  desc : TypeDesc
  size : Nat
  bytes : Nat
  zero : List Value
  eqk : Bool

/-- how an element type's values are written as cells -/
structure Enc : Type 1 where
  α : Type
  d : α
  enc : α → List SV

/-- what a call asks and gives: the first key that is free, the arguments, the owned blocks, what follows -/
abbrev Spec : Type 1 := Nat → List SV → Bl → (SV → Bl → Prop) → Prop

/-- a loop's invariant: the slots that it names and what they hold; the slots of the owned slices that get a key of the loop's own (base, base + 1, ..); what blocks hold; what is known; the measure -/
structure LoopAnn : Type 1 where
  γ : Type
  slots : List Nat
  vals : Nat → γ → List SV
  rekey : List Nat := []
  /-- .. and those in cells of blocks: the block's key, the cell's number -/
  rekeyB : List (Nat × Nat) := []
  blks : Nat → γ → List (Nat × LB) := fun _ _ => []
  inv : γ → Prop
  μ : γ → Nat

structure St : Type 1 where
  tmps : List SV
  blks : Bl
  next : Nat

structure Env : Type 1 where
  ty : Nat → Option TI
  encOf : Nat → Option Enc
  /-- a map's key type: is it a struct's, of how many cells (all of them int) -/
  mkey : Nat → Option (Bool × Nat)
  spec : Nat → Option Spec
  /-- functions whose call leaves every owned block as it is -/
  keep : Nat → Bool
  /-- a loop's annotation, by the id of the block around it and the state before it -/
  loop : Nat → St → Option LoopAnn
  /-- what the call of a range's own function does, by the loop -/
  yield : Nat → Option Spec := fun _ => none
  /-- are stores into blocks of the region's own to be told from others -/
  own : Bool := false

inductive XExit where
  | normal
  | brk (id : Nat)
  | ret

def getSlot : List SV → Nat → SV
  | [], _ => .any
  | x :: _, 0 => x
  | _ :: r, n + 1 => getSlot r n
def setSlot : List SV → Nat → SV → List SV
  | [], _, _ => []
  | _ :: r, 0, v => v :: r
  | x :: r, n + 1, v => x :: setSlot r n v

def evalO (ts : List SV) : Operand → SV
  | .tmp t => getSlot ts t
  | .const (.bool true) => .tt
  | .const (.bool false) => .ff
  | .const v => .val v
  | .func f => .clo f []
  | .global _ => .any

def takeN : Nat → List SV → Option (List SV)
  | 0, _ => some []
  | _ + 1, [] => none
  | n + 1, x :: xs => match takeN n xs with | some r => some (x :: r) | none => none
def splice (off : Nat) (vs cs : List SV) : List SV := cs.take off ++ vs ++ cs.drop (off + vs.length)

def isAggD : TypeDesc → Bool
  | .struct _ => true
  | .array _ _ => true
  | _ => false

/-- a value of one cell, that may be stored -/
def oneC : SV → Bool
  | .any | .agg _ | .tup _ => false
  | .val v => v.oneCell'
  | _ => true
def allOne : List SV → Bool
  | [] => true
  | x :: r => match oneC x with | true => allOne r | false => false

/-- no key in a value that goes into a row of a known make -/
def noKey : SV → Bool
  | .ptr _ _ | .ptrE _ _ | .row _ _ _ _ | .rowE _ _ _ _ | .sl _ _ _ _ | .agg _ | .tup _ | .clo _ _ | .mapv _ => false
  | _ => true
def allNoKey : List SV → Bool
  | [] => true
  | x :: r => match noKey x with | true => allNoKey r | false => false

/-- rows of one make: each of so many cells that can be stored -/
def EncOk {α : Type} (d : α) (enc : α → List SV) : Prop := ∀ x, (enc x).length = (enc d).length ∧ allOne (enc x) = true

def loadSV (ti : TI) (cs : List SV) : Option SV :=
  match isAggD ti.desc with
  | true => match takeN ti.size cs with | some r => some (.agg r) | none => none
  | false => match cs with | c :: _ => some c | [] => none

/-- as it is stored -/
def normB : SV → SV
  | .tt => .val (.bool true)
  | .ff => .val (.bool false)
  | v => v
/-- the cells of a value of a type, as they are stored -/
def cellsSV (ti : TI) (v : SV) : Option (List SV) :=
  match isAggD ti.desc, v with
  | true, .agg cs => match allOne cs, Nat.beq cs.length ti.size with | true, true => some cs | _, _ => none
  | true, _ => none
  | false, v => match oneC v, Nat.beq 1 ti.size with | true, true => some [normB v] | _, _ => none

def lo : IntKind → Int
  | .i8 => -128 | .i16 => -32768 | .i32 => -2147483648 | .i64 => -9223372036854775808 | _ => 0
def hi : IntKind → Int
  | .i8 => 127 | .i16 => 32767 | .i32 => 2147483647 | .i64 => 9223372036854775807
  | .u8 => 255 | .u16 => 65535 | .u32 => 4294967295 | .u64 => 18446744073709551615
def inK (k : IntKind) (x : Int) : Prop := lo k ≤ x ∧ x ≤ hi k
def kEq : IntKind → IntKind → Bool
  | .i8, .i8 | .i16, .i16 | .i32, .i32 | .i64, .i64 | .u8, .u8 | .u16, .u16 | .u32, .u32 | .u64, .u64 => true
  | _, _ => false

def binInt (op : BinOp) (k : IntKind) (x y : Int) (K : SV → Prop) : Prop :=
  match op with
  | .add => inK k (x + y) ∧ K (.val (.int k (x + y)))
  | .sub => inK k (x - y) ∧ K (.val (.int k (x - y)))
  | .mul => inK k (x * y) ∧ K (.val (.int k (x * y)))
  | .quo => y ≠ 0 ∧ inK k (x.tdiv y) ∧ K (.val (.int k (x.tdiv y)))
  | .rem => y ≠ 0 ∧ K (.val (.int k (x.tmod y)))
  | .and => K (.val (.int k (k.wrap (BitVec.ofInt k.bits x &&& BitVec.ofInt k.bits y).toNat)))
  | .or => K (.val (.int k (k.wrap (BitVec.ofInt k.bits x ||| BitVec.ofInt k.bits y).toNat)))
  | .xor => K (.val (.int k (k.wrap (BitVec.ofInt k.bits x ^^^ BitVec.ofInt k.bits y).toNat)))
  | .andNot => K (.val (.int k (k.wrap (BitVec.ofInt k.bits x &&& ~~~ BitVec.ofInt k.bits y).toNat)))
  | .eql => K (.val (.bool (x == y)))
  | .neq => K (.val (.bool (x != y)))
  | .lss => K (.val (.bool (decide (x < y))))
  | .leq => K (.val (.bool (decide (x ≤ y))))
  | .gtr => K (.val (.bool (decide (x > y))))
  | .geq => K (.val (.bool (decide (x ≥ y))))
  | .shl => 0 ≤ y ∧ K (.val (.int k (k.wrap (x * 2 ^ (min y.toNat k.bits)))))
  | .shr => 0 ≤ y ∧ K (.val (.int k (x.fdiv (2 ^ (min y.toNat k.bits)))))

def isShift : BinOp → Bool
  | .shl => true
  | .shr => true
  | _ => false

def asB : SV → Option Bool
  | .tt => some true
  | .ff => some false
  | .val (.bool b) => some b
  | _ => none

def isNilS : SV → Bool
  | .val (.slice none 0 0) => true
  | _ => false

/-- '==' of two values, by their type -/
def eqTy (E : Env) : Nat → Nat → SV → SV → Option Bool
  | 0, _, _, _ => none
  | n + 1, t, a, b => match E.ty t with
    | none => none
    | some ti => match ti.desc with
      | .int _ => match a, b with
        | .val (.int k1 x), .val (.int k2 y) => match kEq k1 k2 with | true => some (x == y) | false => none
        | _, _ => none
      | .bool => match asB a, asB b with | some x, some y => some (x == y) | _, _ => none
      | .struct fs => match a, b, ti.eqk with
        | .agg xs, .agg ys, true => fs.toList.foldr (fun f acc => match E.ty f.type, decide (f.name = "_"), acc with
          | some fi, false, some r => match loadSV fi (xs.drop f.offset), loadSV fi (ys.drop f.offset) with
            | some u, some v => match eqTy E n f.type u v with | some c => some (c && r) | none => none
            | _, _ => none
          | _, _, _ => none) (some true)
        | _, _, _ => none
      | .array len e => match a, b, E.ty e with
        | .agg xs, .agg ys, some te => (List.range len).foldr (fun i acc => match acc with
          | some r => match loadSV te (xs.drop (i * te.size)), loadSV te (ys.drop (i * te.size)) with
            | some u, some v => match eqTy E n e u v with | some c => some (c && r) | none => none
            | _, _ => none
          | none => none) (some true)
        | _, _, _ => none
      | _ => none

def eqSV (E : Env) (t : Nat) (a b : SV) (K : Bool → Prop) : Prop :=
  match E.ty t with
  | none => False
  | some ti => match ti.eqk, eqTy E 6 t a b with
    | true, some r => K r
    | _, _ => match ti.desc, isNilS b, a with
      | .slice _, true, .sl _ _ _ n => ∀ c : Bool, (c = true → n = 0) → K c
      | .slice _, true, .ro _ _ _ xs => ∀ c : Bool, (c = true → xs = []) → K c
      | .slice _, true, .val (.slice none 0 0) => K true
      | _, _, _ => False

/-- a map type's key and element types -/
def mapTy (E : Env) (t : Nat) : Option (Nat × Nat) :=
  match E.ty t with
  | some ti => match ti.desc with
    | .map k e => some (k, e)
    | _ => none
  | none => none
def intsOf : List SV → Option (List Int)
  | [] => some []
  | .val (.int .i64 x) :: r => match intsOf r with | some xs => some (x :: xs) | none => none
  | _ => none
/-- a map's key, of a value -/
def mkKey (isA : Bool) (n : Nat) (s : SV) : Option (List Int) :=
  match isA, s with
  | true, .agg cs => match intsOf cs with
    | some xs => (match Nat.beq xs.length n with | true => some xs | false => none)
    | none => none
  | false, .val (.int .i64 x) => some [x]
  | _, _ => none
def inKs : List Int → Prop
  | [] => True
  | [x] => inK .i64 x
  | x :: r => inK .i64 x ∧ inKs r
def putE {α : Type} (k : List Int) (y : α) : List (List Int × α) → List (List Int × α)
  | [] => [(k, y)]
  | (k', x) :: r => if k' = k then (k, y) :: r else (k', x) :: putE k y r
def lookE {α : Type} (k : List Int) (z : α) : List (List Int × α) → α
  | [] => z
  | (k', x) :: r => if k' = k then x else lookE k z r
def hasE {α : Type} (k : List Int) : List (List Int × α) → Bool
  | [] => false
  | (k', _) :: r => if k' = k then true else hasE k r
def isIntS : Option SV → Bool
  | none => true
  | some (.val (.int _ _)) => true
  | _ => false

def isStr (E : Env) (t : Nat) : Bool :=
  match E.ty t with
  | some ti => match ti.desc with
    | .string => true
    | _ => false
  | none => false
/-- a string's byte -/
def byteAt (s : ByteArray) (n : Nat) : Int := match s[n]? with | some b => (b.toNat : Int) | none => 0
def fieldOff (E : Env) (t f : Nat) : Option (Nat × Nat) :=   -- offset, type
  match E.ty t with
  | some ti => match ti.desc with
    | .struct fs => match fs.toList[f]? with | some fd => some (fd.offset, fd.type) | none => none
    | _ => none
  | none => none
def elemSl (E : Env) (t : Nat) : Option Nat :=
  match E.ty t with
  | some ti => match ti.desc with
    | .slice e => some e
    | _ => none
  | none => none
def elemArr (E : Env) (t : Nat) : Option (Nat × Nat) :=   -- element type, length
  match E.ty t with
  | some ti => match ti.desc with
    | .array n e => some (e, n)
    | _ => none
  | none => none

def shift (p : SV) (n : Nat) : Option SV :=
  match p with
  | .ptr key off => some (.ptr key (off + n))
  | .row key k i off => some (.row key k i (off + n))
  | .rop α d enc xs i off => some (.rop α d enc xs i (off + n))
  | _ => none

/-- the cells that lie at an address and behind it -/
def atAddr (B : Bl) (p : SV) (K : List SV → Prop) : Prop :=
  match p with
  | .ptr key off => match Bl.get B key with
    | some (.cells cs) => K (cs.drop off)
    | some (.arr _ d enc xs) => match Nat.beq (enc d).length 1, Nat.beq off 0 with      -- a whole array of one-cell elements: its first 64 cells
      | true, true => 64 ≤ xs.length ∧ K ((List.range 64).map fun j => (enc (xs.getD j d)).getD 0 .any)
      | _, _ => False
    | _ => False
  | .ptrE key e => match Bl.get B key with
    | some (.cells cs) => ∃ c, cs[e]? = some c ∧ K [c]
    | _ => False
  | .row key k i off => match Bl.get B key with
    | some (.arr _ d enc xs) => match Nat.beq k (enc d).length with
      | true => i < xs.length ∧ K ((enc (xs.getD i d)).drop off)
      | false => False
    | _ => False
  | .rowE key k i e => match Bl.get B key with
    | some (.arr _ d enc xs) => match Nat.beq k (enc d).length with
      | true => i < xs.length ∧ ∃ c, (enc (xs.getD i d))[e]? = some c ∧ K [c]
      | false => False
    | _ => False
  | .rop _ d enc xs i off => i < xs.length ∧ K ((enc (xs.getD i d)).drop off)
  | .ropE _ d enc xs i e => i < xs.length ∧ ∃ c, (enc (xs.getD i d))[e]? = some c ∧ K [c]
  | _ => False

/-- a store of so many cells at an address -/
def storeAt (B : Bl) (p : SV) (vs : List SV) (K : Bl → Prop) : Prop :=
  match p with
  | .ptr key off => match Bl.get B key with
    | some (.cells cs) => match Nat.ble (off + vs.length) cs.length with
      | true => K (Bl.set B key (.cells (splice off vs cs)))
      | false => False
    | _ => False
  | .ptrE key e => match Bl.get B key with
    | some (.cells cs) => e + vs.length ≤ cs.length ∧ K (Bl.set B key (.cells (splice e vs cs)))
    | _ => False
  | .row key k i off => match Bl.get B key with
    | some (.arr α d enc xs) => match Nat.beq k (enc d).length, Nat.ble (off + vs.length) k && allNoKey vs with
      | true, true => i < xs.length ∧ ∃ x : α, enc x = splice off vs (enc (xs.getD i d)) ∧ K (Bl.set B key (.arr α d enc (xs.set i x)))
      | _, _ => False
    | _ => False
  | .rowE key k i e => match Bl.get B key with
    | some (.arr α d enc xs) => match Nat.beq k (enc d).length, allNoKey vs with
      | true, true => (i < xs.length ∧ e + vs.length ≤ k) ∧ ∃ x : α, enc x = splice e vs (enc (xs.getD i d)) ∧ K (Bl.set B key (.arr α d enc (xs.set i x)))
      | _, _ => False
    | _ => False
  | _ => False

def isZero : Option Operand → Bool
  | some (.const (.int _ 0)) => true
  | _ => false

def sliceLH (l h : Option SV) (n : Nat) (K : Nat → Nat → Prop) : Prop :=
  match l, h with
  | none, none => K 0 n
  | some (.val (.int _ a)), none => (0 ≤ a ∧ a ≤ n) ∧ K a.toNat n
  | none, some (.val (.int _ b)) => (0 ≤ b ∧ b ≤ n) ∧ K 0 b.toNat
  | some (.val (.int _ a)), some (.val (.int _ b)) => (0 ≤ a ∧ a ≤ b ∧ b ≤ n) ∧ K a.toNat b.toNat
  | _, _ => False

def sliceSV (x : SV) (l h : Option SV) (K : SV → Prop) : Prop :=
  match x with
  | .sl key k o n => sliceLH l h n fun a b => K (.sl key k (o + a) (b - a))
  | .ro α d enc xs => sliceLH l h xs.length fun a b => K (.ro α d enc ((xs.take b).drop a))
  | _ => False

def chunk : Nat → Nat → List SV → List (List SV)
  | 0, _, _ => []
  | n + 1, k, cs => cs.take k :: chunk n k (cs.drop k)

/-- the rows of a slice whose elements have k cells -/
def rowsOf (B : Bl) (k : Nat) (s : SV) (K : List (List SV) → Prop) : Prop :=
  match s with
  | .e0 => K []
  | .val (.slice none 0 0) => K []
  | .ro _ d enc xs => match Nat.beq k (enc d).length with | true => K (xs.map enc) | false => False
  | .sl key k' o n => match Nat.beq k k', Bl.get B key with
    | true, some (.cells cs) => match Nat.ble ((o + n) * k) cs.length, allNoKey cs && allOne cs with | true, true => K (chunk n k (cs.drop (o * k))) | _, _ => False
    | true, some (.arr _ d enc xs) => match Nat.beq k (enc d).length with | true => o + n ≤ xs.length ∧ K (((xs.drop o).take n).map enc) | false => False
    | _, _ => False
  | _ => False

/-- cells of which nothing is said -/
def hasOne : List SV → Bool
  | [] => false
  | .one :: _ => true
  | _ :: r => hasOne r
def relax : List SV → List SV → List SV
  | .one :: m, c :: r => (match oneC c with | true => .one | false => c) :: relax m r
  | _ :: m, c :: r => c :: relax m r
  | _, r => r
def relaxL (m : List SV) (rows : List (List SV)) : List (List SV) := match hasOne m with | true => rows.map (relax m) | false => rows

def appendSV (E : Env) (kd : Nat) (elem : Nat) (B : Bl) (s x : SV) (K : SV → Bl → Prop) : Prop :=
  match E.ty elem with
  | none => False
  | some ti =>
    match Nat.blt 0 ti.bytes with
    | false => False
    | true =>
    rowsOf B ti.size x fun rows =>
    match s with
    | .sl key k o n => match Bl.get B key, Nat.beq k ti.size with
      | some (.arr α d enc xs), true => match Nat.beq k (enc d).length with
        | true => o + n ≤ xs.length ∧ ∃ ys : List α, relaxL (enc d) rows = ys.map enc ∧ (n + ys.length) * ti.bytes ≤ 2 ^ 47 ∧
          K (.sl kd k 0 (n + ys.length)) (Bl.ins (Bl.del B key) kd (.arr α d enc ((xs.drop o).take n ++ ys)))
        | false => False
      | _, _ => False
    | .e0 | .val (.slice none 0 0) => match E.encOf elem with
      | some e => match Nat.beq ti.size (e.enc e.d).length with
        | true => ∃ ys : List e.α, relaxL (e.enc e.d) rows = ys.map e.enc ∧ (ys.length * ti.bytes ≤ 2 ^ 47 ∧ EncOk e.d e.enc) ∧
          K (.sl kd ti.size 0 ys.length) (Bl.ins B kd (.arr e.α e.d e.enc ys))
        | false => False
      | none => False
    | _ => False

def lenSV (s : SV) (K : SV → Prop) : Prop :=
  match s with
  | .e0 => K (.val (.int .i64 0))
  | .val (.slice none 0 0) => K (.val (.int .i64 0))
  | .sl _ _ _ n => K (.val (.int .i64 n))
  | .ro _ _ _ xs => K (.val (.int .i64 xs.length))
  | _ => False

def fillS (off size : Nat) (v : SV) (cs : List SV) : Option (List SV) :=
  match v with
  | .agg vs => match Nat.beq vs.length size, Nat.ble (off + size) cs.length with | true, true => some (splice off vs cs) | _, _ => none
  | v => match oneC v && Nat.beq 1 size, Nat.ble (off + 1) cs.length with | true, true => some (splice off [normB v] cs) | _, _ => none

def builds (place : Nat → Option (Nat × Nat)) : List (Nat × SV) → List SV → Option (List SV)
  | [], cs => some cs
  | (i, v) :: r, cs => match place i with
    | some (off, size) => match fillS off size v cs with | some cs' => builds place r cs' | none => none
    | none => none

def reps : Nat → List SV → List SV
  | 0, _ => []
  | n + 1, z => z ++ reps n z

def placesOf (E : Env) : List Field → Option (List (Nat × Nat))
  | [] => some []
  | f :: fs => match E.ty f.type, placesOf E fs with
    | some ti, some r => some ((f.offset, ti.size) :: r)
    | _, _ => none

/-- a slice of a block of its own; one of no elements is no more than empty -/
def newSl (kd k : Nat) : Nat → SV
  | 0 => .e0
  | n + 1 => .sl kd k 0 (n + 1)

def lenM (B : Bl) (s : SV) (K : SV → Prop) : Prop :=
  match s with
  | .mapv key => match Bl.get B key with
    | some (.mp _ _ _ _ _ es) => K (.val (.int .i64 es.length))
    | _ => False
  | _ => False

/-- 'clear' of a slice -/
def clearSV (te : TI) (B : Bl) (s : SV) (K : Bl → Prop) : Prop :=
  match s with
  | .e0 => K B
  | .val (.slice none 0 0) => K B
  | .sl key k o n => match Bl.get B key, Nat.beq k te.size with
    | some (.arr α d enc xs), true => match Nat.beq k (enc d).length with
      | true => o + n ≤ xs.length ∧ ∃ z : α, enc z = te.zero.map SV.val ∧ K (Bl.set B key (.arr α d enc (xs.take o ++ List.replicate n z ++ xs.drop (o + n))))
      | false => False
    | _, _ => False
  | _ => False

def makeMapSV (E : Env) (t kd : Nat) (B : Bl) (K : SV → Bl → Prop) : Prop :=
  match mapTy E t with
  | some (k, el) => match E.mkey k, E.encOf el with
    | some (isA, n), some e => match Nat.beq 1 (e.enc e.d).length with
      | true => EncOk e.d e.enc ∧ K (.mapv kd) (Bl.ins B kd (.mp isA n e.α e.d e.enc []))
      | false => False
    | _, _ => False
  | none => False
def updMapSV (E : Env) (t : Nat) (B : Bl) (m k v : SV) (K : Bl → Prop) : Prop :=
  match m with
  | .mapv key => match Bl.get B key, mapTy E t with
    | some (.mp isA n α d enc es), some (kt, _) => match E.mkey kt with
      | some (isA', n') => match isA == isA' && Nat.beq n n', mkKey isA n k, oneC v && noKey v with
        | true, some ks, true => inKs ks ∧ ∃ y : α, enc y = [normB v] ∧ K (Bl.set B key (.mp isA n α d enc (putE ks y es)))
        | _, _, _ => False
      | none => False
    | _, _ => False
  | _ => False
def lookMapSV (E : Env) (t : Nat) (B : Bl) (m k : SV) (ok : Bool) (K : SV → Prop) : Prop :=
  match m with
  | .mapv key => match Bl.get B key, mapTy E t with
    | some (.mp isA n α d enc es), some (kt, el) => match E.mkey kt, E.ty el with
      | some (isA', n'), some te => match isA == isA' && (Nat.beq n n' && !isAggD te.desc), mkKey isA n k, te.zero with
        | true, some ks, [z0] => inKs ks ∧ ∃ z : α, enc z = [.val z0] ∧ (match enc (lookE ks z es), ok with
          | [v], true => K (.tup [v, .val (.bool (hasE ks es))])
          | [v], false => K v
          | _, _ => False)
        | _, _, _ => False
      | _, _ => False
    | _, _ => False
  | _ => False

def actC (E : Env) (kd : Nat) (c : Call) (ρ : Operand → SV) (B : Bl) (K : SV → Bl → Prop) : Prop :=
  match c.callee with
  | .value f =>
    match ρ f with
    | .clo g caps => match E.spec g with
      | some sp => sp kd (c.args.toList.map ρ ++ caps) B K
      | none => False
    | .val (.func (.yield l) a b) => match Nat.beq a.size 0 && Nat.beq b.size 0, E.yield l with
      | true, some sp => sp kd (c.args.toList.map ρ) B K
      | _, _ => False
    | _ => False
  | .builtin .len => match c.args.toList, c.argTypes.toList with
    | [x], [t] => match elemSl E t, mapTy E t with | some _, _ => lenSV (ρ x) fun v => K v B | none, some _ => lenM B (ρ x) fun v => K v B | none, none => False
    | _, _ => False
  | .builtin .append => match c.args.toList, c.argTypes.toList with
    | [s, x], [t, t'] => match elemSl E t, elemSl E t' with | some e, some _ => appendSV E kd e B (ρ s) (ρ x) K | _, _ => False
    | _, _ => False
  | .builtin .clear => match c.args.toList, c.argTypes.toList with
    | [x], [t] => match elemSl E t with
      | some e => match E.ty e with
        | some te => clearSV te B (ρ x) fun B' => K (.tup []) B'
        | none => False
      | none => False
    | _, _ => False
  | .builtin .min => match c.args.toList with
    | [x, y] => match ρ x, ρ y with | .val (.int k a), .val (.int _ b) => K (.val (.int k (if b < a then b else a))) B | _, _ => False
    | _ => False
  | _ => False

def act0 (E : Env) (o : Oper) (kd : Nat) (ρ : Operand → SV) (B : Bl) (K : SV → Bl → Prop) : Prop :=
  match o.op with
  | .move x => K (ρ x) B
  | .assign x => K (ρ x) B
  | .pick c a b => match ρ c with
    | .tt => K (ρ a) B
    | .ff => K (ρ b) B
    | .val (.bool t) => match asB (ρ a), asB (ρ b) with
      | some x, some y => K (.val (.bool (bif t then x else y))) B
      | _, _ => (t = true → K (ρ a) B) ∧ (t = false → K (ρ b) B)
    | _ => False
  | .alloc t => match E.ty t with
    | some ti => K (.ptr kd 0) (Bl.ins B kd (.cells (ti.zero.map SV.val)))
    | none => False
  | .box t x => match E.ty t with
    | some ti => match cellsSV ti (ρ x) with | some cs => K (.ptr kd 0) (Bl.ins B kd (.cells cs)) | none => False
    | none => False
  | .build t ps => match E.ty t with
    | some ti => match ti.desc with
      | .struct fs => match placesOf E fs.toList with
        | some pl => match builds (fun i => pl[i]?) (ps.toList.map fun p => (p.1, ρ p.2)) (ti.zero.map SV.val) with
          | some cs => K (.agg cs) B
          | none => False
        | none => False
      | .array _ e => match E.ty e with
        | some te => match builds (fun i => some (i * te.size, te.size)) (ps.toList.map fun p => (p.1, ρ p.2)) (ti.zero.map SV.val) with
          | some cs => K (.agg cs) B
          | none => False
        | none => False
      | _ => False
    | none => False
  | .buildSlice t n ps => match elemSl E t with
    | some e => match E.ty e with
      | some te => match builds (fun i => some (i * te.size, te.size)) (ps.toList.map fun p => (p.1, ρ p.2)) (reps n (te.zero.map SV.val)), Nat.ble (n * te.size) 16777216 with
        | some cs, true => match allOne cs with | true => K (newSl kd te.size n) (Bl.ins B kd (.cells cs)) | false => False
        | _, _ => False
      | none => False
    | none => False
  | .load t x => match E.ty t with
    | some ti => atAddr B (ρ x) fun cs => match loadSV ti cs with | some v => K v B | none => False
    | none => False
  | .store t x y => match E.ty t with
    | some ti => match cellsSV ti (ρ y) with
      | some vs => storeAt B (ρ x) vs fun B' => K (.tup []) B'
      | none => False
    | none => False
  | .nilCheck x => match ρ x with
    | .ptr .. | .ptrE .. | .row .. | .rowE .. | .rop .. | .ropE .. | .clo .. => K (ρ x) B
    | _ => False
  | .binOp op t x y _ => match ρ x, ρ y with
    | .val (.int k a), .val (.int k' b) => match isShift op || kEq k k' with
      | true => binInt op k a b fun v => K v B
      | false => False
    | a, b => match op with
      | .eql => eqSV E t a b fun r => K (.val (.bool r)) B
      | .neq => eqSV E t a b fun r => K (.val (.bool (!r))) B
      | _ => False
  | .unOp .not _ x => match ρ x with
    | .tt => K .ff B
    | .ff => K .tt B
    | .val (.bool b) => K (.val (.bool (!b))) B
    | _ => False
  | .unOp .neg _ x => match ρ x with
    | .val (.int k n) => inK k (-n) ∧ K (.val (.int k (-n))) B
    | _ => False
  | .convert s t x => match E.ty s, E.ty t, ρ x with
    | some si, some ti, .val (.int _ n) => match si.desc, ti.desc with | .int _, .int k => inK k n ∧ K (.val (.int k n)) B | _, _ => False
    | _, _, _ => False
  | .makeFunc (.func f) first caps => match first.toList with | [] => K (.clo f (caps.toList.map ρ)) B | _ => False
  | .slice t x l h m => match elemSl E t with
    | none => False
    | some e => match E.ty e with
      | none => False
      | some te => match m with
        | some _ => match isZero h && isZero m && (match l with | none => true | some _ => false), ρ x with
          | true, .sl .. => K .e0 B
          | true, .ro .. => K .e0 B
          | true, .e0 => K .e0 B
          | true, .val (.slice none 0 0) => K .e0 B
          | _, _ => False
        | none => match ρ x with
          | .sl key k o n => match Nat.beq k te.size with
            | true => sliceSV (.sl key k o n) (l.map ρ) (h.map ρ) fun v => K v B
            | false => False
          | .ro α d enc xs => match Nat.beq te.size (enc d).length with
            | true => sliceSV (.ro α d enc xs) (l.map ρ) (h.map ρ) fun v => K v B
            | false => False
          | _ => False
  | .fieldAddr t x f => match fieldOff E t f with
    | some (off, ft) => match E.ty ft with
      | some fi => match Nat.beq fi.size 0, shift (ρ x) off with | false, some v => K v B | _, _ => False
      | none => False
    | none => False
  | .field t x f => match fieldOff E t f, ρ x with
    | some (off, ft), .agg cs => match E.ty ft with
      | some ti => match loadSV ti (cs.drop off) with | some v => K v B | none => False
      | none => False
    | _, _ => False
  | .indexAddr t x i => match ρ i with
    | .val (.int _ n) => match elemSl E t with
      | some e => match E.ty e, ρ x with
        | some te, .sl key k o len => match Nat.beq k te.size with
          | false => False
          | true => (0 ≤ n ∧ n < len) ∧ (match Bl.get B key, i with
            | some (.cells _), .const _ => K (.ptr key ((o + n.toNat) * k)) B
            | some (.cells _), _ => K (.ptrE key ((o + n.toNat) * k)) B
            | some (.arr ..), _ => K (.row key k (o + n.toNat) 0) B
            | _, _ => False)
        | some te, .ro α d enc xs => match Nat.beq te.size (enc d).length with
          | true => (0 ≤ n ∧ n < xs.length) ∧ K (.rop α d enc xs n.toNat 0) B
          | false => False
        | _, _ => False
      | none => match elemArr E t with
        | some (e, len) => match E.ty e with
          | none => False
          | some te => (0 ≤ n ∧ n < len) ∧ (match ρ x, i with
            | .ptr key off, .const _ => K (.ptr key (off + n.toNat * te.size)) B
            | .ptr key off, _ => (match Bl.get B key with
              | some (.arr _ d enc _) => match Nat.beq te.size (enc d).length, Nat.beq (off % te.size) 0 with
                | true, true => K (.row key te.size (off / te.size + n.toNat) 0) B
                | _, _ => (match Nat.beq off 0 with
                  | true => K (.row key te.size n.toNat 0) B      -- an array of arrays: the next index comes
                  | false => False)
              | some (.cells _) => K (.ptrE key (off + n.toNat * te.size)) B
              | _ => False)
            | .row key k j off, .const _ => K (.row key k j (off + n.toNat * te.size)) B
            | .row key k j off, _ => (match Bl.get B key with
              | some (.arr _ d enc _) => match Nat.beq k (enc d).length with
                | true => K (.rowE key k j (off + n.toNat * te.size)) B
                | false => (match Nat.beq te.size (enc d).length, Nat.beq (k % te.size) 0, Nat.beq (off % te.size) 0 with
                  | true, true, true => K (.row key te.size (j * (k / te.size) + off / te.size + n.toNat) 0) B
                  | _, _, _ => False)
              | _ => False)
            | .rop α d enc xs j off, .const _ => K (.rop α d enc xs j (off + n.toNat * te.size)) B
            | .rop α d enc xs j off, _ => K (.ropE α d enc xs j (off + n.toNat * te.size)) B
            | _, _ => False)
        | none => False
    | _ => False
  | .index t x i => match ρ i, elemArr E t, ρ x with
    | .val (.int _ n), some (e, len), .agg cs => match E.ty e with
      | some te => (0 ≤ n ∧ n < len) ∧ (match i with
        | .const _ => match loadSV te (cs.drop (n.toNat * te.size)) with | some v => K v B | none => False
        | _ => match isAggD te.desc, Nat.beq te.size 1 with | false, true => ∃ c, cs[n.toNat]? = some c ∧ K c B | _, _ => False)
      | none => False
    | .val (.int _ n), none, .val (.string s) => match isStr E t with
      | true => (0 ≤ n ∧ n < s.size) ∧ K (.val (.int .u8 (byteAt s n.toNat))) B
      | false => False
    | _, _, _ => False
  | .extract x i => match ρ x with
    | .tup vs => match Nat.blt i vs.length with | true => K (getSlot vs i) B | false => False
    | _ => False
  | .call c => actC E kd c ρ B K
  | .makeMap t q => match isIntS (q.map ρ) with | true => makeMapSV E t kd B K | false => False
  | .mapUpdate t m k v => updMapSV E t B (ρ m) (ρ k) (ρ v) fun B' => K (.tup []) B'
  | .lookup t m k ok => lookMapSV E t B (ρ m) (ρ k) ok fun v => K v B
  | _ => False

/-- no key of so many from kd on is taken -/
def freshB (kd : Nat) : Bl → Bool
  | [] => true
  | (k, _) :: r => match Nat.ble kd k && Nat.blt k (kd + 8) with | true => false | false => freshB kd r
/-- an operation that makes no block and turns none -/
def plainOp (o : Oper) : Bool :=
  match o.op with
  | .alloc _ | .box .. | .buildSlice .. | .store .. | .makeMap .. | .mapUpdate .. => false
  | .call c => match c.callee with
    | .builtin .len => true
    | .builtin .min => true
    | _ => false
  | _ => true
def act (E : Env) (o : Oper) (kd : Nat) (ρ : Operand → SV) (B : Bl) (K : SV → Bl → Prop) : Prop :=
  match plainOp o || freshB kd B with
  | true => act0 E o kd ρ B K
  | false => False

def setDst (ts : List SV) : Option Nat → SV → List SV
  | none, _ => ts
  | some d, v => setSlot ts d v

def usedAsGuard (all : List Oper) (i : Nat) : Bool := all.any fun o => match o.guard with | some (j, _) => Nat.beq i j | none => false
def dstOf (all : List Oper) (i : Nat) : Option Nat := match all[i]? with | some o => o.dst | none => none

/-- is an operation wanted? -/
def wantedSV (all : List Oper) (o : Oper) (ts : List SV) : Option Bool :=
  match o.guard with
  | none => some true
  | some (j, want) => match dstOf all j with
    | none => none
    | some t => match getSlot ts t, want with
      | .tt, true => some true
      | .ff, false => some true
      | .tt, false => some false
      | .ff, true => some false
      | .tup [], _ => some false
      | _, _ => none

/-- what follows an operation's value: a value that guards others is parted -/
def after (all : List Oper) (i : Nat) (o : Oper) (ts : List SV) (n : Nat) (v : SV) (B : Bl) (K : St → Prop) : Prop :=
  match usedAsGuard all i, v with
  | true, .val (.bool b) => (b = true → K ⟨setDst ts o.dst .tt, B, n⟩) ∧ (b = false → K ⟨setDst ts o.dst .ff, B, n⟩)
  | _, _ => K ⟨setDst ts o.dst v, B, n⟩

def stepOp (E : Env) (all : List Oper) (i : Nat) (o : Oper) (st : St) (K : St → Prop) : Prop :=
  match wantedSV all o st.tmps with
  | none => False
  | some false => K ⟨setDst st.tmps o.dst (.tup []), st.blks, st.next⟩
  | some true => act E o (st.next + 8 * i) (evalO st.tmps) st.blks fun v B => after all i o st.tmps st.next v B K

def runOps (E : Env) (all : List Oper) : List Oper → Nat → St → (St → Prop) → Prop
  | [], _, st, K => K st
  | o :: r, i, st, K => stepOp E all i o st fun st' => runOps E all r (i + 1) st' K

/-- an operation that yields one value and does nothing else -/
def quietK (o : Oper) (ρ : Operand → SV) : Bool :=
  match o.op with
  | .move _ | .assign _ | .pick .. | .build .. | .load .. | .nilCheck _ | .unOp .. | .convert .. | .makeFunc .. | .slice .. | .fieldAddr .. | .field .. | .indexAddr .. | .index .. | .extract .. => true
  | .binOp _ _ _ y _ => !isNilS (ρ y)
  | .call c => match c.callee with
    | .builtin .len => match c.args.toList with
      | [x] => match ρ x with | .mapv _ => false | _ => true
      | _ => false
    | .builtin .min => true
    | _ => false
  | _ => false
def readsK (o : Oper) : Bool :=
  match o.op with
  | .load .. => true
  | .indexAddr .. => true
  | _ => false
/-- an operation that leaves every owned block as it is -/
def keepsK (E : Env) (o : Oper) : Bool :=
  match o.op with
  | .store .. => false
  | .mapUpdate .. => false
  | .call c => match c.callee with
    | .builtin .len => true
    | .builtin .min => true
    | .value (.func g) => E.keep g
    | _ => false
  | _ => true
def waitsOn (o : Oper) (i : Nat) : Bool := o.after.any fun e => Region.binds .any e && e.on == i
def allKeep (E : Env) (listed : Array Bool) (i : Nat) : List Oper → Nat → Bool
  | [], _ => true
  | o :: r, j => match Nat.beq j i || listed.getD j true || waitsOn o i || keepsK E o with | true => allKeep E listed i r (j + 1) | false => false
/-- a value that leads to blocks older than the region, or to frozen ones -/
def lowV (n : Nat) : SV → Bool
  | .ptr k _ => Nat.blt k n
  | .ptrE k _ => Nat.blt k n
  | .row k _ _ _ => Nat.blt k n
  | .rowE k _ _ _ => Nat.blt k n
  | .sl k _ _ _ => Nat.blt k n
  | .rop .. => true
  | .ropE .. => true
  | .ro .. => true
  | _ => false
def lowI (n : Nat) : SV → Bool
  | .ptr k _ => Nat.blt k n
  | .row k _ _ _ => Nat.blt k n
  | .sl k _ _ _ => Nat.blt k n
  | .ro .. => true
  | _ => false
/-- an operation that reads older blocks or frozen ones alone -/
def lowK (n : Nat) (o : Oper) (ρ : Operand → SV) : Bool :=
  match o.op with
  | .load _ x => lowV n (ρ x)
  | .indexAddr _ x _ => lowI n (ρ x)
  | _ => false
def isAllocO (o : Oper) : Bool := match o.op with | .alloc _ => true | _ => false
def dstIs (o : Oper) (t : Nat) : Bool := match o.dst with | some d => Nat.beq d t | none => false
/-- no other operation than that at a writes the slot t -/
def soleFrom (t a : Nat) : List Oper → Nat → Bool
  | [], _ => true
  | o :: r, j => match Nat.beq j a || !dstIs o t with | true => soleFrom t a r (j + 1) | false => false
def findAlloc (t : Nat) : List Oper → Nat → Option Nat
  | [], _ => none
  | o :: r, j => match dstIs o t && isAllocO o with | true => some j | false => findAlloc t r (j + 1)
/-- a store into a block that the region lays -/
def ownStore (all : List Oper) (o : Oper) : Bool :=
  match o.op with
  | .store _ (.tmp t) _ => match findAlloc t all 0 with
    | some a => soleFrom t a all 0 && waitsOn o a
    | none => false
  | _ => false
def allKeepO (E : Env) (listed : Array Bool) (i : Nat) (all : List Oper) : List Oper → Nat → Bool
  | [], _ => true
  | o :: r, j => match Nat.beq j i || listed.getD j true || waitsOn o i || keepsK E o || ownStore all o with | true => allKeepO E listed i all r (j + 1) | false => false
def mayRead (E : Env) (ops : Array Oper) (listed : Array Bool) (ts : List SV) (n i : Nat) (o : Oper) : Bool :=
  !readsK o || lowK 0 o (evalO ts) || allKeep E listed i ops.toList 0 || (match E.own && lowK n o (evalO ts) with | true => allKeepO E listed i ops.toList ops.toList 0 | false => false)
/-- the first of those that may come up that may be taken first -/
def pickQ (E : Env) (ops : Array Oper) (listed : Array Bool) (ts : List SV) (n : Nat) : List Nat → Option Nat
  | [] => none
  | i :: r => match ops[i]? with
    | some o => match quietK o (evalO ts) && Region.free .any ops listed i && mayRead E ops listed ts n i o, wantedSV ops.toList o ts with
      | true, some _ => some i
      | _, _ => pickQ E ops listed ts n r
    | none => pickQ E ops listed ts n r
def allOf (f : Nat → Prop) : List Nat → Prop
  | [] => True
  | [i] => f i
  | i :: r => f i ∧ allOf f r
def symRun (E : Env) (ops : Array Oper) (K : St → Prop) : Nat → Array Bool → St → Prop
  | 0, listed, st => match Region.ready .any ops listed with | [] => K st | _ :: _ => False
  | fuel + 1, listed, st => match Region.ready .any ops listed with
    | [] => K st
    | i0 :: rs => match pickQ E ops listed st.tmps st.next (i0 :: rs) with
      | some i => match ops[i]? with
        | some o => stepOp E ops.toList i o st fun st' => symRun E ops K fuel (listed.setIfInBounds i true) st'
        | none => False
      | none => allOf (fun i => match ops[i]? with
        | some o => stepOp E ops.toList i o st fun st' => symRun E ops K fuel (listed.setIfInBounds i true) st'
        | none => False) (i0 :: rs)

def dstsC : Code → List Nat
  | .region _ ops _ => ops.toList.filterMap (·.dst)
  | .seq a b => dstsC a ++ dstsC b
  | .cond _ a b => dstsC a ++ dstsC b
  | .block _ c => dstsC c
  | .loop c => dstsC c
  | .scope c => dstsC c
  | _ => []
def memN : Nat → List Nat → Bool
  | _, [] => false
  | n, m :: r => match Nat.beq n m with | true => true | false => memN n r
def lookN {β : Type 1} : Nat → List (Nat × β) → Option β
  | _, [] => none
  | n, (m, b) :: r => match Nat.beq n m with | true => some b | false => lookN n r

def subN : List Nat → List Nat → Bool
  | [], _ => true
  | i :: r, l => match memN i l with | true => subN r l | false => false
def zipSV : List Nat → List SV → List (Nat × SV)
  | [], _ => []
  | i :: r, [] => (i, .any) :: zipSV r []
  | i :: r, v :: s => (i, v) :: zipSV r s
def overSlots (mods : List Nat) (ov : List (Nat × SV)) : Nat → List SV → List SV
  | _, [] => []
  | i, x :: r => (match lookN i ov with | some v => v | none => match memN i mods with | true => .any | false => x) :: overSlots mods ov (i + 1) r
def overBlks : List (Nat × LB) → Bl → Bl
  | [], B => B
  | (k, b) :: r, B => overBlks r (match Bl.has B k with | true => Bl.set B k b | false => Bl.ins B k b)

/-- the key of an owned slice in a slot -/
def slKey : SV → Option Nat
  | .sl key _ _ _ => some key
  | _ => none
def keysAt (ts : List SV) : List Nat → List (Option Nat)
  | [] => []
  | i :: r => slKey (getSlot ts i) :: keysAt ts r
def keysB (B : Bl) : List (Nat × Nat) → List (Option Nat)
  | [] => []
  | (k, i) :: r => (match Bl.get B k with | some (.cells cs) => slKey (getSlot cs i) | _ => none) :: keysB B r
def rkLen (an : LoopAnn) : Nat := an.rekey.length + an.rekeyB.length
def keysAll (st : St) (an : LoopAnn) : List (Option Nat) := keysAt st.tmps an.rekey ++ keysB st.blks an.rekeyB
def dropKeys : List (Option Nat) → Bl → Bl
  | [], B => B
  | some k :: r, B => dropKeys r (Bl.del B k)
  | none :: r, B => dropKeys r B

def below1 (n : Nat) : SV → Bool
  | .ptr k _ | .ptrE k _ | .row k _ _ _ | .rowE k _ _ _ | .sl k _ _ _ | .mapv k => Nat.blt k n
  | .agg _ | .tup _ | .clo _ _ => false
  | _ => true
def belows1 (n : Nat) : List SV → Bool
  | [] => true
  | x :: r => match below1 n x with | true => belows1 n r | false => false
def below2 (n : Nat) : SV → Bool
  | .agg cs => belows1 n cs
  | .tup cs => belows1 n cs
  | .clo _ cs => belows1 n cs
  | v => below1 n v
/-- no kept slot speaks of a key from n on -/
def keptBelow (n : Nat) (mods : List Nat) (ov : List (Nat × SV)) : Nat → List SV → Bool
  | _, [] => true
  | i, x :: r => match lookN i ov, memN i mods with
    | none, false => match below2 n x with | true => keptBelow n mods ov (i + 1) r | false => false
    | _, _ => keptBelow n mods ov (i + 1) r
def lbBelow (n : Nat) : LB → Bool
  | .cells cs => belows1 n cs
  | .arr .. => true
  | .mp .. => true
  | .objAt _ svs _ => belows1 n svs
def blksBelow (n : Nat) : Bl → Bool
  | [] => true
  | (k, b) :: r => match Nat.blt k n, lbBelow n b with | true, true => blksBelow n r | _, _ => false

/-- the key of the loop's own, in the state that is held against the invariant -/
def renOf (base : Nat) (ren : List (Option Nat)) (key : Nat) : Option Nat :=
  match Nat.blt key base with
  | true => some key
  | false => match ren[key - base]? with | some (some k) => some k | _ => none

def svLe (base : Nat) (ren : List (Option Nat)) (a b : SV) : Prop :=
  match a, b with
  | _, .any => True
  | .val (.int k x), .val (.int k' y) => match kEq k k' with | true => x = y | false => False
  | .val (.bool x), .val (.bool y) => x = y
  | .tt, .val (.bool y) => y = true
  | .ff, .val (.bool y) => y = false
  | .sl key k o n, .sl key' k' o' n' => match renOf base ren key' with
    | some q => match Nat.beq key q with | true => k = k' ∧ o = o' ∧ n = n' | false => False
    | none => False
  | .val (.slice none 0 0), .sl _ _ o n => o = 0 ∧ n = 0
  | .e0, .sl _ _ o n => o = 0 ∧ n = 0
  | .ptr key off, .ptr key' off' => match renOf base ren key' with
    | some q => match Nat.beq key q, Nat.beq off off' with | true, true => True | _, _ => False
    | none => False
  | a, b => match below2 base b with | true => a = b | false => False

def slotsLe (base : Nat) (ren : List (Option Nat)) (ts : List SV) : List (Nat × SV) → Prop
  | [] => True
  | [(i, v)] => svLe base ren (getSlot ts i) v
  | (i, v) :: r => svLe base ren (getSlot ts i) v ∧ slotsLe base ren ts r

def cellsLe (base : Nat) (ren : List (Option Nat)) : List SV → List SV → Prop
  | [], [] => True
  | [a], [b] => svLe base ren a b
  | a :: r, b :: s => svLe base ren a b ∧ cellsLe base ren r s
  | _, _ => False

def lbLe (base : Nat) (ren : List (Option Nat)) (a b : LB) : Prop :=
  match a, b with
  | .cells cs, .cells cs' => cellsLe base ren cs cs'
  | .cells cs, .arr _ d enc xs => match allNoKey cs with
    | true => cs = (xs.map enc).flatten ∧ EncOk d enc
    | false => False
  | .arr α d enc xs, b => LB.arr α d enc xs = b
  | .mp isA n α d enc es, b => LB.mp isA n α d enc es = b
  | _, _ => False

/-- the blocks that the invariant names -/
def blksLe (base : Nat) (ren : List (Option Nat)) (B : Bl) : List (Nat × LB) → Prop
  | [] => True
  | (key, lb) :: r => (match renOf base ren key with
      | some q => match Bl.get B q with | some b => lbLe base ren b lb | none => False
      | none => match lb with | .arr _ d enc xs => xs = [] ∧ EncOk d enc | _ => False) ∧ blksLe base ren B r
/-- the kept blocks are as they were -/
def keptLe (ov : List (Nat × LB)) (B : Bl) : Bl → Prop
  | [] => True
  | (key, lb) :: r => match lookN key ov with
    | some _ => keptLe ov B r
    | none => (match Bl.get B key with | some b => b = lb | none => False) ∧ keptLe ov B r

def distinct : List (Option Nat) → List Nat → Bool
  | [], _ => true
  | none :: r, l => distinct r l
  | some k :: r, l => match memN k l with | true => false | false => distinct r (k :: l)
/-- the blocks that an invariant names: no key twice; an old key is a kept one; a new one is one of the loop's own -/
def annOk (base len : Nat) (kept : Bl) : List (Nat × LB) → List Nat → Bool
  | [], _ => true
  | (k, _) :: r, l => match memN k l, Nat.blt k base, Bl.has kept k, Nat.blt k (base + len) with
    | false, true, true, _ => annOk base len kept r (k :: l)
    | false, false, _, true => annOk base len kept r (k :: l)
    | _, _, _, _ => false

/-- a state is one of the invariant's: 'kept' are the blocks that the loop keeps -/
def stLe (base : Nat) (an : LoopAnn) (kept : Bl) (st : St) (g : an.γ) : Prop :=
  match keysAll st an with
  | ren => match distinct ren (kept.map (·.1)) with
    | true => slotsLe base ren st.tmps (zipSV an.slots (an.vals base g)) ∧ blksLe base ren st.blks (an.blks base g) ∧ keptLe (an.blks base g) st.blks kept
    | false => False

def exec (E : Env) : Code → St → (XExit → St → Prop) → Prop
  | .skip, st, Q => Q .normal st
  | .region _ ops false, st, Q => runOps E ops.toList ops.toList 0 st fun st' => Q .normal ⟨st'.tmps, st'.blks, st.next + 8 * ops.toList.length⟩
  | .region _ ops true, st, Q => symRun E ops (fun st' => Q .normal ⟨st'.tmps, st'.blks, st.next + 8 * ops.toList.length⟩) ops.size (Array.replicate ops.size false) st
  | .seq a b, st, Q => exec E a st fun e st' => match e with | .normal => exec E b st' Q | .brk i => Q (.brk i) st' | .ret => Q .ret st'
  | .cond c a b, st, Q => match evalO st.tmps c with
    | .tt => exec E a st Q
    | .ff => exec E b st Q
    | .val (.bool t) => (t = true → exec E a st Q) ∧ (t = false → exec E b st Q)
    | _ => False
  | .block id (.loop c), st, Q => match E.loop id st with
    | none => False
    | some an => match keysAll st an, dstsC c with
      | ren0, mods => match dropKeys ren0 st.blks with
        | kept =>
          (∃ g, an.inv g ∧ stLe st.next an kept st g) ∧
          ∀ g, an.inv g → (match keptBelow st.next mods (zipSV an.slots (an.vals st.next g)) 0 st.tmps && (blksBelow st.next kept && subN an.slots mods), annOk st.next (rkLen an) kept (an.blks st.next g) [] with
            | true, true => exec E c ⟨overSlots mods (zipSV an.slots (an.vals st.next g)) 0 st.tmps, overBlks (an.blks st.next g) kept, st.next + rkLen an⟩ fun e st' => match e with
              | .normal => ∃ g', an.inv g' ∧ an.μ g' < an.μ g ∧ stLe st.next an kept st' g'
              | .brk i => match Nat.beq i id with | true => Q .normal st' | false => Q (.brk i) st'
              | .ret => Q .ret st'
            | _, _ => False)
  | .block id c, st, Q => exec E c st fun e st' => match e with
    | .normal => Q .normal st'
    | .brk i => match Nat.beq i id with | true => Q .normal st' | false => Q (.brk i) st'
    | .ret => Q .ret st'
  | .exit i, st, Q => Q (.brk i) st
  | .ret, st, Q => Q .ret st
  | _, _, _ => False

def resSV (E : Env) (ts : List SV) (B : Bl) : List ResultVar → (List SV → Prop) → Prop
  | [], K => K []
  | .tmp t :: r, K => resSV E ts B r fun vs => K (getSlot ts t :: vs)
  | .cell a t :: r, K => match E.ty t with
    | some ti => atAddr B (getSlot ts a) fun cs => match loadSV ti cs with | some v => resSV E ts B r fun vs => K (v :: vs) | none => False
    | none => False

def retSV (E : Env) (rs : List ResultVar) (st : St) (K : SV → Bl → Prop) : Prop :=
  resSV E st.tmps st.blks rs fun vs => match vs with | [v] => K v st.blks | _ => K (.tup vs) st.blks

def anys : Nat → List SV
  | 0 => []
  | n + 1 => .any :: anys n

/-- what is to be shown of a function's body -/
def vcOf (E : Env) (fn : Func) (nx : Nat) (args : List SV) (B : Bl) (K : SV → Bl → Prop) : Prop :=
  match fn.body with
  | none => False
  | some c => exec E c ⟨args ++ anys (fn.ntmps - args.length), B, nx⟩ fun e st => match e with
    | .normal => retSV E fn.results.toList st K
    | .ret => retSV E fn.results.toList st K
    | .brk _ => False

def tyP (P : Program) (t : Nat) : Option TI :=
  match P.underlying t, P.info? t with
  | some d, some i => match i.zero with
    | some z => match Nat.beq z.cells.toList.length i.size, z.cells.toList.all Value.oneCell' && (isAggD d || z.oneCell') with
      | true, true => some ⟨d, i.size, i.bytes, z.cells.toList, !P.stoodInHeld t && !P.eqGuardType P.depth t⟩
      | _, _ => none
    | none => none
  | _, _ => none
end Go.SX
