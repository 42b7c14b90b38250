/- The abstract machine: an interpreter of the model's code over abstract values and an abstract heap (definitions alone; no condition). -/
import GoSem.Step
namespace Go.Proofs.YtplblmhnccdgcaaGreat.AM
open Go
noncomputable section

/-! ### results, tries -/
inductive R (α : Type) where
  | ok (a : α)
  | no (why : Nat)
def R.bind {α β : Type} (x : R α) (f : α → R β) : R β := R.rec (motive := fun _ => R β) f (fun w => .no w) x
def B {α : Type} (c : Bool) (x y : α) : α := Bool.rec (motive := fun _ => α) y x c

inductive Tr (α : Type) where
  | nil
  | nd (l : Tr α) (v : Option α) (r : Tr α)

noncomputable def Tr.get {α : Type} (t : Tr α) : Nat → Option α :=
  Tr.rec (motive := fun _ => Nat → Option α) (fun _ => none)
    (fun _ v _ gl gr k => Bool.rec (Bool.rec (gr (Nat.pred (Nat.div k 2))) (gl (Nat.div k 2)) (Nat.beq (Nat.mod k 2) 1)) v (Nat.beq k 0)) t
noncomputable def Tr.one {α : Type} (f : Nat) : Nat → α → Tr α :=
  Nat.rec (motive := fun _ => Nat → α → Tr α) (fun _ _ => .nil)
    (fun _ g k v => Bool.rec (Bool.rec (.nd .nil none (g (Nat.pred (Nat.div k 2)) v)) (.nd (g (Nat.div k 2) v) none .nil) (Nat.beq (Nat.mod k 2) 1)) (.nd .nil (some v) .nil) (Nat.beq k 0)) f
noncomputable def Tr.putR {α : Type} (t : Tr α) : Nat → α → Tr α :=
  Tr.rec (motive := fun _ => Nat → α → Tr α) (fun k v => Tr.one (Nat.succ k) k v)
    (fun l u r gl gr k v => Bool.rec (Bool.rec (.nd l u (gr (Nat.pred (Nat.div k 2)) v)) (.nd (gl (Nat.div k 2) v) u r) (Nat.beq (Nat.mod k 2) 1)) (.nd l (some v) r) (Nat.beq k 0)) t
noncomputable def Tr.del {α : Type} (t : Tr α) : Nat → Tr α :=
  Tr.rec (motive := fun _ => Nat → Tr α) (fun _ => .nil)
    (fun l u r gl gr k => Bool.rec (Bool.rec (.nd l u (gr (Nat.pred (Nat.div k 2)))) (.nd (gl (Nat.div k 2)) u r) (Nat.beq (Nat.mod k 2) 1)) (.nd l none r) (Nat.beq k 0)) t

/-! ### values, objects, tables -/
inductive AV where
  | int (k : IntKind) (n : Int)
  | sym (i : Nat) (d : Int)
  | ge (lo : Nat)
  | bool (b : Bool)
  | str (s : List Nat)
  | nilptr
  | ptr (n off : Nat)
  | nilslice
  | slice (n off len es : Nat) (cap : Option Nat)
  | nilmap
  | map (n : Nat)
  | nilchan
  | chan (n : Nat)
  | nilfunc
  | func (f : Nat) (caps : List AV)
  | niliface
  | iface (t : Nat) (v : AV)
  | agg (cs : List AV)
  | tup (vs : List AV)
  deriving Inhabited

inductive AO where
  | cells (cs : List AV) (ro : Bool)
  | mp (es : List (AV × AV))
  | ch (cap : Nat) (buf : List AV)

structure TI where
  kind : Nat          -- 1 slice, 2 struct, 3 map, 4 string, 5 int, 6 bool, 7 pointer
  size : Nat
  bytes : Nat
  zero : List AV
  elem : Nat          -- array: how long
  es : Nat            -- its cells
  eb : Nat            -- its bytes
  ez : List AV        -- its zero cells
  kz : AV             -- map: a key's zero value
  eagg : Bool         -- struct: all its fields are plain, each compared
  fields : List (Nat × Nat × Bool)   -- struct: offset, size, is it an aggregate
  deriving Inhabited

/-- prs: for each region that draws its order: which reader goes beside which changer. -/
structure Fn where
  ntmps : Nat
  body : Code
  res : List ResultVar
  prs : List (Nat × List (Nat × Nat))

structure Tab where
  ty : Tr TI
  fn : Tr Fn

structure Hp where
  heap : Tr AO
  next : Nat
  wl : Nat

inductive Ex where
  | normal | exit (id : Nat) | ret

def undefA : AV := .tup []

/-! ### numbers and lists, for the kernel -/
def isz (x : Int) : Bool := match x with | .ofNat n => Nat.beq n 0 | .negSucc _ => false
def ieq (x y : Int) : Bool := match x, y with | .ofNat a, .ofNat b => Nat.beq a b | .negSucc a, .negSucc b => Nat.beq a b | _, _ => false
def ile (x y : Int) : Bool := match x, y with | .ofNat a, .ofNat b => Nat.ble a b | .negSucc a, .negSucc b => Nat.ble b a | .negSucc _, .ofNat _ => true | .ofNat _, .negSucc _ => false
def ilt (x y : Int) : Bool := !(ile y x)
def I64MAX : Nat := 9223372036854775807
def wrapI (k : IntKind) (x : Int) : Int :=
  match k, x with
  | .i64, .ofNat a => B (Nat.ble a I64MAX) (.ofNat a) (k.wrap x)
  | .i64, .negSucc a => B (Nat.ble a I64MAX) (.negSucc a) (k.wrap x)
  | _, _ => k.wrap x
def mkInt (k : IntKind) (x : Int) : AV := match wrapI k x with | .ofNat a => .int k (.ofNat a) | .negSucc a => .int k (.negSucc a)
def nat (n : Nat) : AV := .int .i64 (.ofNat n)

def LIM : Nat := 1048576
def nthL {α : Type} (l : List α) : Nat → Option α :=
  List.rec (motive := fun _ => Nat → Option α) (fun _ => none) (fun x _ g n => Bool.rec (g (Nat.sub n 1)) (some x) (Nat.beq n 0)) l
def takeL {α : Type} (l : List α) : Nat → List α :=
  List.rec (motive := fun _ => Nat → List α) (fun _ => []) (fun x _ g n => Bool.rec (x :: g (Nat.sub n 1)) [] (Nat.beq n 0)) l
def dropL {α : Type} (l : List α) : Nat → List α :=
  List.rec (motive := fun _ => Nat → List α) (fun _ => []) (fun x l g n => Bool.rec (g (Nat.sub n 1)) (x :: l) (Nat.beq n 0)) l
/-- l with ys laid over it -/
def overL {α : Type} (l : List α) : List α → List α :=
  List.rec (motive := fun _ => List α → List α) (fun _ => []) (fun x l g ys => List.rec (motive := fun _ => List α) (x :: l) (fun y ys _ => y :: g ys) ys) l
/-- l with ys laid over it from place n on -/
def layR {α : Type} (l : List α) : Nat → List α → List α :=
  List.rec (motive := fun _ => Nat → List α → List α) (fun _ _ => []) (fun x l g n ys => Bool.rec (x :: g (Nat.sub n 1) ys) (overL (x :: l) ys) (Nat.beq n 0)) l
def layL {α : Type} (ys : List α) (l : List α) (n : Nat) : List α := layR l n ys
def lenL {α : Type} (l : List α) : Nat := List.rec (motive := fun _ => Nat) 0 (fun _ _ n => Nat.succ n) l
def catL {α : Type} (k l : List α) : List α := List.rec (motive := fun _ => List α) l (fun x _ g => x :: g) k
def repL {α : Type} (z : List α) : Nat → List α
  | 0 => []
  | n + 1 => catL z (repL z n)
def memL : Nat → List Nat → Bool
  | _, [] => false
  | n, x :: l => bif Nat.beq n x then true else memL n l
def nlist : List Nat → List Nat → Bool
  | [], [] => true
  | x :: a, y :: b => bif Nat.beq x y then nlist a b else false
  | _, _ => false

/-! ### constants, operands -/
def ofValue : Value → R AV
  | .bool b => .ok (.bool b)
  | .int k n => .ok (match n with | .ofNat a => .int k (.ofNat a) | .negSucc a => .int k (.negSucc a))
  | .string s => .ok (.str (s.data.toList.map UInt8.toNat))
  | .pointer none => .ok .nilptr
  | .slice none 0 0 => .ok .nilslice
  | .map none => .ok .nilmap
  | .chan none => .ok .nilchan
  | .nilFunc => .ok .nilfunc
  | .nilIface => .ok .niliface
  | _ => .no 1

def envGet (env : Tr AV) (t : Nat) : AV := Option.rec (motive := fun _ => AV) undefA (fun v => v) (env.get t)
def evR (x : Operand) : Tr AV → R AV :=
  Operand.rec (motive := fun _ => Tr AV → R AV) (fun t env => .ok (envGet env t)) (fun v _ => ofValue v) (fun _ _ => .no 2) (fun f _ => .ok (.func f [])) x
def ev (env : Tr AV) (x : Operand) : R AV := evR x env
def evsR (l : List Operand) : Tr AV → R (List AV) :=
  List.rec (motive := fun _ => Tr AV → R (List AV)) (fun _ => .ok []) (fun x _ g env => (ev env x).bind fun v => (g env).bind fun vs => .ok (v :: vs)) l
def evs (env : Tr AV) (l : List Operand) : R (List AV) := evsR l env
def evO (env : Tr AV) : Option Operand → R (Option AV)
  | none => .ok none
  | some o => (ev env o).bind fun v => .ok (some v)
def parts (env : Tr AV) : List (Nat × Operand) → R (List (Nat × AV))
  | [] => .ok []
  | (i, x) :: l => (ev env x).bind fun v => (parts env l).bind fun vs => .ok ((i, v) :: vs)

/-- a value's cells; what is no variable's value has none -/
def cellsOf (v : AV) : R (List AV) := match v with | .agg cs => .ok cs | .tup _ => .no 90 | v => .ok [v]
def asN (v : AV) : R Nat := match v with | .int _ (.ofNat n) => .ok n | _ => .no 3
def tyOf (T : Tab) (t : Nat) : R TI := Option.rec (motive := fun _ => R TI) (.no 4) (fun i => .ok i) (T.ty.get t)

/-! ### the heap -/
def new (h : Hp) (o : AO) (v : Nat → AV) : R (AV × Hp) := .ok (v h.next, { heap := h.heap.putR h.next o, next := Nat.succ h.next, wl := h.wl })
def getCells (h : Hp) (n : Nat) : R (List AV × Bool) := match h.heap.get n with | some (.cells cs ro) => .ok (cs, ro) | _ => .no 5
def lower (a b : Nat) : Nat := Bool.rec (motive := fun _ => Nat) b a (Nat.ble a b)
def writeAt (h : Hp) (n off : Nat) (vs : List AV) : R Hp :=
  (getCells h n).bind fun c =>
  B c.2 (.no 6) (B (Nat.ble (Nat.add off (lenL vs)) (lenL c.1)) (.ok { heap := h.heap.putR n (.cells (layL vs c.1 off) false), next := h.next, wl := lower h.wl n }) (.no 7))

/-! ### equality -/
def isNum (v : AV) : Bool := match v with | .int _ _ | .sym _ _ | .ge _ => true | _ => false
/-- numbers: equal for sure, unequal for sure, or not known -/
def sameN (x y : AV) : Option Bool :=
  match x, y with
  | .int j a, .int k b => B (decide (j = k)) (some (ieq a b)) none
  | .sym i d, .sym j e => B (Nat.beq i j) (B (ieq d e) (some true) none) none
  | _, _ => none
/-- plain things: numbers, bools, strings -/
def sameS (x y : AV) : Option Bool :=
  match x, y with
  | .bool a, .bool b => some (Bool.rec (motive := fun _ => Bool) (!b) b a)
  | .str a, .str b => some (nlist a b)
  | x, y => sameN x y
/-- is x of the kind that a zero value tells? -/
def likeZ (z x : AV) : Bool :=
  match z, x with
  | .int _ _, x => isNum x
  | .bool _, .bool _ => true
  | .str _, .str _ => true
  | _, _ => false
/-- field by field; the first list: the zero values -/
def sameL : List AV → List AV → List AV → Option Bool
  | [], [], [] => some true
  | z :: zs, x :: a, y :: b => B (likeZ z x) (match sameS x y with
    | some false => (match sameL zs a b with | some _ => some false | none => none)
    | some true => sameL zs a b
    | none => none) none
  | _, _, _ => none
/-- by the type's kind -/
def sameT (ti : TI) (x y : AV) : Option Bool :=
  match x, y with
  | .bool a, .bool b => B (Nat.beq ti.kind 6) (some (Bool.rec (motive := fun _ => Bool) (!b) b a)) none
  | .nilptr, .nilptr => B (Nat.beq ti.kind 7) (some true) none
  | .nilptr, .ptr _ _ => B (Nat.beq ti.kind 7) (some false) none
  | .ptr _ _, .nilptr => B (Nat.beq ti.kind 7) (some false) none
  | .nilslice, .nilslice => B (Nat.beq ti.kind 1) (some true) none
  | .nilslice, .slice .. => B (Nat.beq ti.kind 1) (some false) none
  | .slice .., .nilslice => B (Nat.beq ti.kind 1) (some false) none
  | .agg a, .agg b => B ti.eagg (B (Nat.beq (lenL a) ti.size) (B (Nat.beq (lenL b) ti.size) (sameL ti.zero a b) none) none) none
  | _, _ => none

/-! ### binary operators; Γ: what is known of the symbols -/
/-- What is known of the symbols: where they lie; what an operator gives of one and a number. -/
structure Syms where
  rng : Nat → Option (Int × Int)
  opr : BinOp → Nat → Int → Option AV
def ofO (x : Option Bool) : R AV := match x with | some b => .ok (.bool b) | none => .no 8
def ofNO (x : Option Bool) : R AV := match x with | some b => .ok (.bool (!b)) | none => .no 9
def binI (op : BinOp) (k : IntKind) (a b : Int) : R AV :=
  match op with
  | .add => .ok (mkInt k (a + b))
  | .sub => .ok (mkInt k (a - b))
  | .mul => .ok (mkInt k (a * b))
  | .eql => .ok (.bool (ieq a b))
  | .neq => .ok (.bool (!ieq a b))
  | .lss => .ok (.bool (ilt a b))
  | .leq => .ok (.bool (ile a b))
  | .gtr => .ok (.bool (ilt b a))
  | .geq => .ok (.bool (ile b a))
  | .quo => B (isz b) (.no 10) (.ok (mkInt k (a.tdiv b)))
  | .rem => B (isz b) (.no 10) (.ok (.int k (a.tmod b)))
  | _ => .no 11
def bitI (op : BinOp) (k : IntKind) (a b : Int) : R AV :=
  match a, b with
  | .ofNat x, .ofNat y =>
    (match op with
    | .and => .ok (mkInt k (.ofNat (x &&& y)))
    | .or => .ok (mkInt k (.ofNat (x ||| y)))
    | .xor => .ok (mkInt k (.ofNat (x ^^^ y)))
    | _ => .no 13)
  | _, _ => .no 14
def shI (op : BinOp) (k : IntKind) (a b : Int) : R AV :=
  match a, b with
  | .ofNat x, .ofNat y =>
    B (Nat.ble y 8) (match op with
    | .shl => .ok (mkInt k (.ofNat (x * 2 ^ y)))
    | .shr => .ok (.int k (.ofNat (x / 2 ^ y)))
    | _ => .no 13) (.no 12)
  | _, _ => .no 14
/-- 0: a plain operator, 1: of bits, 2: a shift -/
def opKind (op : BinOp) : Nat := match op with | .and | .or | .xor | .andNot => 1 | .shl | .shr => 2 | _ => 0
/-- x ≤ y ? -/
def symLe (Γ : Syms) (x y : AV) : Option Bool :=
  match x, y with
  | .sym i (.ofNat 0), .int .i64 b => match Γ.rng i with
    | some p => B (ile p.2 b) (some true) (B (ilt b p.1) (some false) none)
    | none => none
  | .int .i64 a, .sym i (.ofNat 0) => match Γ.rng i with
    | some p => B (ile a p.1) (some true) (B (ilt p.2 a) (some false) none)
    | none => none
  | .int .i64 a, .ge lo => B (ile a (.ofNat lo)) (some true) none
  | _, _ => none
/-- of numbers one of which is not known -/
def binX (Γ : Syms) (op : BinOp) (x y : AV) : R AV :=
  match op with
  | .eql => ofO (sameN x y)
  | .neq => ofNO (sameN x y)
  | .leq => ofO (symLe Γ x y)
  | .geq => ofO (symLe Γ y x)
  | .lss => ofNO (symLe Γ y x)
  | .gtr => ofNO (symLe Γ x y)
  | .add => (match x, y with
    | .sym i d, .int .i64 n => .ok (.sym i (d + n))
    | .int .i64 n, .sym i d => .ok (.sym i (n + d))
    | _, _ => .no 15)
  | .sub => (match x, y with
    | .sym i d, .int .i64 n => .ok (.sym i (d - n))
    | _, _ => .no 16)
  | op => (match x, y with
    | .sym i (.ofNat 0), .int .i64 n => (match Γ.opr op i n with | some v => .ok v | none => .no 17)
    | _, _ => .no 17)
def bin (T : Tab) (Γ : Syms) (op : BinOp) (t : Nat) (x y : AV) : R AV :=
  match x, y with
  | .int j a, .int k b => Nat.rec (motive := fun _ => R AV) (B (decide (j = k)) (binI op j a b) (.no 18)) (fun n _ => B (Nat.beq n 0) (B (decide (j = k)) (bitI op j a b) (.no 18)) (shI op j a b)) (opKind op)
  | .str a, .str b => (match op with
    | .add => B (Nat.ble (Nat.add (lenL a) (lenL b)) LIM) (.ok (.str (catL a b))) (.no 18)
    | .eql => .ok (.bool (nlist a b))
    | .neq => .ok (.bool (!nlist a b))
    | _ => .no 18)
  | x, y => B (isNum x && isNum y) (binX Γ op x y) ((tyOf T t).bind fun ti => match op with
    | .eql => ofO (sameT ti x y)
    | .neq => ofNO (sameT ti x y)
    | _ => .no 18)

/-! ### maps -/
def find (k : AV) : List (AV × AV) → R (Option AV)
  | [] => .ok none
  | e :: es => match sameS k e.1 with
    | some true => .ok (some e.2)
    | some false => find k es
    | none => .no 19
def upd (k v : AV) : List (AV × AV) → R (List (AV × AV))
  | [] => .ok [(k, v)]
  | e :: es => match sameS k e.1 with
    | some true => .ok ((k, v) :: es)
    | some false => (upd k v es).bind fun l => .ok (e :: l)
    | none => .no 20

/-! ### slices -/
def bound (x : Option AV) (dflt : Nat) : R Nat := match x with | none => .ok dflt | some v => asN v
def sub {α : Type} (l : List α) (off n : Nat) : List α := takeL (dropL l off) n
def sliceS (h : Hp) (n off len es : Nat) (cap : Option Nat) (lo hi mx : Option AV) : R AV :=
  (bound lo 0).bind fun l => (bound hi len).bind fun m =>
  B (Nat.ble l m)
    (match mx with
    | none =>
      (match cap with
      | some c => B (Nat.ble m c) (.ok (.slice n (Nat.add off (Nat.mul l es)) (Nat.sub m l) es (some (Nat.sub c l)))) (.no 21)
      | none => B (Nat.ble m len) (.ok (.slice n (Nat.add off (Nat.mul l es)) (Nat.sub m l) es none))
        ((getCells h n).bind fun c => B (Nat.ble (Nat.add off (Nat.mul m es)) (lenL c.1)) (B (Nat.ble 1 es) (.ok (.slice n (Nat.add off (Nat.mul l es)) (Nat.sub m l) es none)) (.no 22)) (.no 22)))
    | some x => (match hi with | none => R.no 25 | some _ => asN x).bind fun x =>
      B (Nat.ble m x) (B (Nat.ble x (match cap with | some c => c | none => len)) (.ok (.slice n (Nat.add off (Nat.mul l es)) (Nat.sub m l) es (some (Nat.sub x l)))) (.no 23)) (.no 24))
  (.no 25)
def sliceOp (ti : TI) (h : Hp) (x : AV) (lo hi mx : Option AV) : R AV :=
  match x with
  | .str b => B (Nat.beq ti.kind 4) ((bound lo 0).bind fun l => (bound hi (lenL b)).bind fun m =>
    B (Nat.ble l m) (B (Nat.ble m (lenL b)) (match mx with | none => .ok (.str (sub b l (Nat.sub m l))) | some _ => .no 26) (.no 26)) (.no 27)) (.no 27)
  | .nilslice => B (Nat.beq ti.kind 1) ((bound lo 0).bind fun l => (bound hi 0).bind fun m => (match mx with | none => R.ok 0 | some x => (match hi with | none => R.no 25 | some _ => asN x)).bind fun x =>
    B (Nat.beq (Nat.add (Nat.add l m) x) 0) (.ok .nilslice) (.no 28)) (.no 28)
  | .slice n off len es cap => B (Nat.beq ti.kind 1) (B (Nat.beq es ti.es) (sliceS h n off len es cap lo hi mx) (.no 29)) (.no 29)
  | _ => .no 29

/-! ### append: the new cells and how many elements; then by the form of the slice -/
/-- the cells from off on, m of them: they must all be known -/
def getSub (h : Hp) (n off m : Nat) : R (List AV × Bool) := (getCells h n).bind fun c => B (Nat.ble (Nat.add off m) (lenL c.1)) (.ok (sub c.1 off m, c.2)) (.no 30)
def appNew (h : Hp) (es : Nat) (y : AV) : R (List AV × Nat) :=
  match y with
  | .nilslice => .ok ([], 0)
  | .slice n off len e _ => B (Nat.beq e es) ((getSub h n off (Nat.mul len es)).bind fun c => .ok (c.1, len)) (.no 30)
  | .str b => B (Nat.beq es 1) (.ok (b.map fun c => AV.int .u8 (.ofNat c), lenL b)) (.no 30)
  | _ => .no 30
def appFresh (h : Hp) (eb : Nat) (cs : List AV) (k es : Nat) : R (AV × Hp) :=
  B (Nat.ble k LIM) (B (Nat.ble eb 4096) (new h (.cells cs false) fun n => .slice n 0 k es none) (.no 30)) (.no 30)
def appS (h : Hp) (eb n off len es : Nat) (cap : Option Nat) (xs : List AV) (k : Nat) : R (AV × Hp) :=
  match cap with
  | some cp =>
    B (Nat.ble (Nat.add len k) cp)
      (B (Nat.beq k 0) (.ok (.slice n off len es cap, h)) ((writeAt h n (Nat.add off (Nat.mul len es)) xs).bind fun h => .ok (.slice n off (Nat.add len k) es cap, h)))
      ((getSub h n off (Nat.mul len es)).bind fun c => appFresh h eb (catL c.1 xs) (Nat.add len k) es)
  | none =>
    B (Nat.beq k 0) (.ok (.slice n off len es none, h))
    ((getCells h n).bind fun c =>
      B c.2 (.no 31)
      (B (Nat.ble (Nat.add (Nat.add off (Nat.mul len es)) (lenL xs)) (lenL c.1)) ((writeAt h n (Nat.add off (Nat.mul len es)) xs).bind fun h => .ok (.slice n off (Nat.add len k) es none, h))
      (B (Nat.beq (Nat.add off (Nat.mul len es)) (lenL c.1))
        (appFresh { heap := h.heap.del n, next := h.next, wl := lower h.wl n } eb (catL (sub c.1 off (Nat.mul len es)) xs) (Nat.add len k) es)
        (.no 32))))
def append (T : Tab) (h : Hp) (t u : Nat) (x y : AV) : R (AV × Hp) :=
  (tyOf T t).bind fun ti => (tyOf T u).bind fun tu => B (Nat.beq tu.kind 5) (.no 33) (B (Nat.beq ti.kind 1) ((appNew h ti.es y).bind fun p =>
  match x with
  | .nilslice => B (Nat.beq p.2 0) (.ok (.nilslice, h)) (appFresh h ti.eb p.1 p.2 ti.es)
  | .slice n off len es cap => B (Nat.beq es ti.es) (appS h ti.eb n off len es cap p.1 p.2) (.no 33)
  | _ => .no 33) (.no 33))

/-! ### the operations -/
abbrev CallF := Nat → List AV → Hp → R (AV × Hp)

def fillP (fs : Nat → Option (Nat × Nat)) : List (Nat × AV) → List AV → R (List AV)
  | [], cs => .ok cs
  | p :: rest, cs => match fs p.1 with
    | none => .no 34
    | some q => (cellsOf p.2).bind fun xs => B (Nat.beq (lenL xs) q.2) (B (Nat.ble (Nat.add q.1 (lenL xs)) (lenL cs)) (fillP fs rest (layL xs cs q.1)) (.no 35)) (.no 35)
def fieldAt (l : List (Nat × Nat × Bool)) (i : Nat) : Option (Nat × Nat) := match nthL l i with | some q => some (q.1, q.2.1) | none => none

def opPick (env : Tr AV) (h : Hp) (c a b : Operand) : R (AV × Hp) := (ev env c).bind fun c => match c with
  | .bool true => (ev env a).bind fun v => .ok (v, h)
  | .bool false => (ev env b).bind fun v => .ok (v, h)
  | _ => .no 36
def opMove (env : Tr AV) (h : Hp) (x : Operand) : R (AV × Hp) := (ev env x).bind fun v => .ok (v, h)
def opAlloc (T : Tab) (h : Hp) (t : Nat) : R (AV × Hp) := (tyOf T t).bind fun ti => new h (.cells ti.zero false) fun n => .ptr n 0
def opBox (env : Tr AV) (h : Hp) (x : Operand) : R (AV × Hp) := (ev env x).bind fun v => (cellsOf v).bind fun cs => new h (.cells cs false) fun n => .ptr n 0
/-- where a part of a struct or of an array lies, and how many cells it has -/
def placeOf (ti : TI) (i : Nat) : Option (Nat × Nat) := B (Nat.beq ti.es 0) (fieldAt ti.fields i) (some (Nat.mul i ti.es, ti.es))
def opBuild (T : Tab) (env : Tr AV) (h : Hp) (t : Nat) (ps : List (Nat × Operand)) : R (AV × Hp) := (tyOf T t).bind fun ti =>
  B (Nat.beq ti.kind 2) ((parts env ps).bind fun l => (fillP (placeOf ti) l ti.zero).bind fun cs => .ok (.agg cs, h)) (.no 37)
def opBuildSlice (T : Tab) (env : Tr AV) (h : Hp) (t len : Nat) (ps : List (Nat × Operand)) : R (AV × Hp) := (tyOf T t).bind fun ti => B (Nat.beq ti.kind 1) (B (Nat.ble (Nat.mul len ti.es) LIM) (
  (parts env ps).bind fun l => (fillP (fun i => some (Nat.mul i ti.es, ti.es)) l (repL ti.ez len)).bind fun cs => new h (.cells cs false) fun n => .slice n 0 len ti.es (some len)) (.no 37)) (.no 37)
def loadC (ti : TI) (cs : List AV) (off : Nat) : R AV :=
  B (Nat.beq ti.kind 2) (B (Nat.ble (Nat.add off ti.size) (lenL cs)) (.ok (.agg (sub cs off ti.size))) (.no 38))
    (Option.rec (motive := fun _ => R AV) (.no 39) (fun v => .ok v) (nthL cs off))
def opLoad (T : Tab) (env : Tr AV) (h : Hp) (t : Nat) (x : Operand) : R (AV × Hp) := (ev env x).bind fun p => match p with
  | .ptr n off => (getCells h n).bind fun c => (tyOf T t).bind fun ti => (loadC ti c.1 off).bind fun v => .ok (v, h)
  | _ => .no 40
def opStore (T : Tab) (env : Tr AV) (h : Hp) (t : Nat) (x v : Operand) : R (AV × Hp) := (ev env x).bind fun p => match p with
  | .ptr n off => (ev env v).bind fun v => (tyOf T t).bind fun ti => (cellsOf v).bind fun cs =>
    B (Nat.beq (lenL cs) ti.size) ((writeAt h n off cs).bind fun h => .ok (undefA, h)) (.no 41)
  | _ => .no 42
def opNilCheck (env : Tr AV) (h : Hp) (x : Operand) : R (AV × Hp) := (ev env x).bind fun p => match p with
  | .ptr n f => .ok (.ptr n f, h)
  | .func f c => .ok (.func f c, h)
  | _ => .no 43
def opBin (T : Tab) (Γ : Syms) (env : Tr AV) (h : Hp) (b : BinOp) (t : Nat) (x y : Operand) : R (AV × Hp) := (ev env x).bind fun x => (ev env y).bind fun y => (bin T Γ b t x y).bind fun v => .ok (v, h)
def opUn (env : Tr AV) (h : Hp) (u : UnOp) (x : Operand) : R (AV × Hp) := (ev env x).bind fun x => match u, x with
  | .not, .bool b => .ok (.bool (!b), h)
  | .neg, .int k n => .ok (mkInt k (0 - n), h)
  | _, _ => .no 44
def opConvert (T : Tab) (env : Tr AV) (h : Hp) (src dst : Nat) (x : Operand) : R (AV × Hp) := (ev env x).bind fun v => (tyOf T dst).bind fun td => (tyOf T src).bind fun ts =>
  match v with
  | .int _ n => B (Nat.beq td.kind 5) (match td.zero with
    | [.int k _] => .ok (mkInt k n, h)
    | _ => .no 46) (.no 46)
  | .sym i d => B (Nat.beq td.kind 5) (match td.zero with
    | [.int .i64 _] => .ok (.sym i d, h)
    | _ => .no 47) (.no 47)
  | .str b => B (Nat.beq td.kind 4) (B (Nat.beq ts.kind 4) (.ok (.str b, h)) (.no 48)) (.no 48)
  | _ => .no 52
def opMakeFunc (env : Tr AV) (h : Hp) (f : Go.Fn) (a c : List Operand) : R (AV × Hp) := match f, a with
  | .func f, [] => (evs env c).bind fun vs => .ok (.func f vs, h)
  | _, _ => .no 53
def opMakeSlice (T : Tab) (env : Tr AV) (h : Hp) (t : Nat) (l c : Operand) : R (AV × Hp) := (tyOf T t).bind fun ti => (ev env l).bind fun l => (asN l).bind fun l => (ev env c).bind fun c => (asN c).bind fun c =>
  B (Nat.beq ti.kind 1) (B (Nat.ble l c) (B (Nat.ble c LIM) (B (Nat.ble ti.eb 4096) (new h (.cells (repL ti.ez c) false) fun n => .slice n 0 l ti.es (some c)) (.no 54)) (.no 54)) (.no 54)) (.no 54)
def opSlice (T : Tab) (env : Tr AV) (h : Hp) (t : Nat) (x : Operand) (lo hi mx : Option Operand) : R (AV × Hp) :=
  (tyOf T t).bind fun ti => (ev env x).bind fun x => (evO env lo).bind fun lo => (evO env hi).bind fun hi => (evO env mx).bind fun mx => (sliceOp ti h x lo hi mx).bind fun v => .ok (v, h)
def opFieldAddr (T : Tab) (env : Tr AV) (h : Hp) (t : Nat) (x : Operand) (f : Nat) : R (AV × Hp) := (ev env x).bind fun p => match p with
  | .ptr n off => (tyOf T t).bind fun ti => B (Nat.beq ti.kind 2) (match nthL ti.fields f with
    | some q => .ok (.ptr n (Nat.add off q.1), h)
    | none => .no 55) (.no 55)
  | _ => .no 56
def opField (T : Tab) (env : Tr AV) (h : Hp) (t : Nat) (x : Operand) (f : Nat) : R (AV × Hp) := (ev env x).bind fun p => match p with
  | .agg cs => (tyOf T t).bind fun ti => B (Nat.beq ti.kind 2) (match nthL ti.fields f with
    | some q => B q.2.2 (.ok (.agg (sub cs q.1 q.2.1), h)) (match nthL cs q.1 with | some v => .ok (v, h) | none => .no 57)
    | none => .no 58) (.no 58)
  | _ => .no 59
def opIndexAddr (T : Tab) (env : Tr AV) (h : Hp) (t : Nat) (x i : Operand) : R (AV × Hp) := (ev env x).bind fun x => (ev env i).bind fun i => (asN i).bind fun j => (tyOf T t).bind fun ti => match x with
  | .slice n off len es _ => B (Nat.beq ti.kind 1) (B (Nat.beq es ti.es) (B (Nat.ble (Nat.succ j) len) (.ok (.ptr n (Nat.add off (Nat.mul j es)), h)) (.no 60)) (.no 60)) (.no 61)
  | .ptr n off => B (Nat.beq ti.kind 2) (B (Nat.ble (Nat.succ j) ti.elem) (B (Nat.ble 1 ti.es) (.ok (.ptr n (Nat.add off (Nat.mul j ti.es)), h)) (.no 60)) (.no 60)) (.no 61)
  | _ => .no 61
def opIndex (T : Tab) (env : Tr AV) (h : Hp) (t : Nat) (x i : Operand) : R (AV × Hp) := (ev env x).bind fun x => (ev env i).bind fun i => (asN i).bind fun j => (tyOf T t).bind fun ti => B (Nat.beq ti.kind 4) (match x with
  | .str b => (match nthL b j with | some c => .ok (.int .u8 (.ofNat c), h) | none => .no 62)
  | _ => .no 63) (.no 63)
def okOf (ok : Bool) (v : AV) (b : Bool) : AV := B ok (.tup [v, .bool b]) v
def opLookup (T : Tab) (env : Tr AV) (h : Hp) (t : Nat) (x k : Operand) (ok : Bool) : R (AV × Hp) := (ev env x).bind fun x => match x with
  | .map n => (match h.heap.get n with
    | some (.mp es) => (tyOf T t).bind fun ti => B (Nat.beq ti.kind 3) ((ev env k).bind fun k => B (likeZ ti.kz k) ((find k es).bind fun r => match r with
      | some v => .ok (okOf ok v true, h)
      | none => (match ti.ez with
        | [z] => .ok (okOf ok z false, h)
        | _ => .no 64)) (.no 64)) (.no 64)
    | _ => .no 64)
  | _ => .no 65
def opMapUpdate (T : Tab) (env : Tr AV) (h : Hp) (t : Nat) (x k v : Operand) : R (AV × Hp) := (ev env x).bind fun x => match x with
  | .map n => (match h.heap.get n with
    | some (.mp es) => (tyOf T t).bind fun ti => B (Nat.beq ti.kind 3) ((ev env k).bind fun k => (ev env v).bind fun v => B (likeZ ti.kz k) ((upd k v es).bind fun es =>
      .ok (undefA, { heap := h.heap.putR n (.mp es), next := h.next, wl := lower h.wl n })) (.no 66)) (.no 66)
    | _ => .no 66)
  | _ => .no 67
def opExtract (env : Tr AV) (h : Hp) (x : Operand) (i : Nat) : R (AV × Hp) := (ev env x).bind fun x => match x with
  | .tup vs => (match nthL vs i with | some v => .ok (v, h) | none => .no 68)
  | _ => .no 69

def lenV (ti : TI) (h : Hp) (v : AV) : R AV := match v with
  | .nilslice => B (Nat.beq ti.kind 1) (.ok (nat 0)) (.no 71)
  | .slice _ _ len _ _ => B (Nat.beq ti.kind 1) (.ok (nat len)) (.no 71)
  | .str b => B (Nat.beq ti.kind 4) (.ok (nat (lenL b))) (.no 71)
  | .nilmap => B (Nat.beq ti.kind 3) (.ok (nat 0)) (.no 71)
  | .map n => B (Nat.beq ti.kind 3) (match h.heap.get n with | some (.mp es) => .ok (nat (lenL es)) | _ => .no 70) (.no 71)
  | _ => .no 71
def capV (ti : TI) (h : Hp) (v : AV) : R AV := B (Nat.beq ti.kind 1) (match v with
  | .nilslice => .ok (nat 0)
  | .slice _ _ _ _ (some c) => .ok (nat c)
  | .slice n off _ es none => (getCells h n).bind fun c => B (Nat.ble 1 es) (.ok (.ge (Nat.div (Nat.sub (lenL c.1) off) es))) (.no 72)
  | _ => .no 72) (.no 72)
def isSeq (v : AV) : Bool := match v with | .nilslice => true | .slice .. => true | .str _ => true | _ => false
def copyV (ti : TI) (h : Hp) (x y : AV) : R (AV × Hp) := B (Nat.beq ti.kind 1) (match x with
  | .nilslice => B (isSeq y) (.ok (nat 0, h)) (.no 73)
  | .slice n off len es _ => B (Nat.beq es ti.es) (match y with
    | .slice n' off' len' es' _ => B (Nat.beq es' es) ((getSub h n' off' (Nat.mul (lower len' len) es)).bind fun c => (writeAt h n off c.1).bind fun h => .ok (nat (lower len' len), h)) (.no 73)
    | .nilslice => .ok (nat 0, h)
    | _ => .no 73) (.no 73)
  | _ => .no 73) (.no 73)
def clearV (ti : TI) (h : Hp) (x : AV) : R (AV × Hp) := B (Nat.beq ti.kind 1) (match x with
  | .slice n off len es _ => B (Nat.beq es ti.es) (B (Nat.beq len 0) (.ok (undefA, h)) ((writeAt h n off (repL ti.ez len)).bind fun h => .ok (undefA, h))) (.no 74)
  | .nilslice => .ok (undefA, h)
  | _ => .no 74) (.no 74)
def minV (x y : AV) : R AV := match x, y with
  | .int j a, .int k b => B (decide (j = k)) (.ok (.int j (B (ile a b) a b))) (.no 75)
  | _, _ => .no 76
def builtin (T : Tab) (h : Hp) (b : Builtin) (ts : List Nat) (vs : List AV) : R (AV × Hp) :=
  match b, vs, ts with
  | .len, [x], t :: _ => (tyOf T t).bind fun ti => (lenV ti h x).bind fun v => .ok (v, h)
  | .cap, [x], t :: _ => (tyOf T t).bind fun ti => (capV ti h x).bind fun v => .ok (v, h)
  | .append, [x, y], t :: u :: _ => append T h t u x y
  | .copy, [x, y], t :: _ => (tyOf T t).bind fun ti => copyV ti h x y
  | .clear, [x], t :: _ => (tyOf T t).bind fun ti => clearV ti h x
  | .min, [x, y], _ => (minV x y).bind fun v => .ok (v, h)
  | _, _, _ => .no 77

/-- does it name nothing from n on? -/
def lowS (n : Nat) (v : AV) : Bool := match v with
  | .ptr m _ => Nat.blt m n
  | .slice m .. => Nat.blt m n
  | .map m => Nat.blt m n
  | .chan m => Nat.blt m n
  | .func _ c => (match c with | [] => true | _ => false)
  | .iface _ _ => false
  | .agg _ => false
  | .tup _ => false
  | _ => true
def lowL (n : Nat) : List AV → Bool
  | [] => true
  | v :: l => bif lowS n v then lowL n l else false
def lowV (n : Nat) (v : AV) : Bool := match v with
  | .agg cs => lowL n cs
  | .tup vs => lowL n vs
  | v => lowS n v
/-- A call: where nothing old was written and nothing new is handed back, all is as it was. -/
def doCall (call : CallF) (h : Hp) (f : Nat) (vs : List AV) : R (AV × Hp) :=
  (call f vs { heap := h.heap, next := h.next, wl := h.next }).bind fun r =>
  bif Nat.ble h.next r.2.wl then
    bif lowV h.next r.1 then .ok (r.1, h) else .ok (r.1, { heap := r.2.heap, next := r.2.next, wl := h.wl })
  else .ok (r.1, { heap := r.2.heap, next := r.2.next, wl := lower h.wl r.2.wl })
def opCall (T : Tab) (call : CallF) (env : Tr AV) (h : Hp) (c : Call) : R (AV × Hp) :=
  match c.callee with
  | .builtin b => (evs env c.args.toList).bind fun vs => builtin T h b c.argTypes.toList vs
  | .value f => (ev env f).bind fun f => (match f with
    | .func f caps => (evs env c.args.toList).bind fun vs => doCall call h f (catL vs caps)
    | _ => .no 78)
  | .invoke _ _ => .no 79

def opMakeMap (h : Hp) (r : Option Operand) : R (AV × Hp) := match r with | none => new h (.mp []) .map | some _ => .no 80
def opIface (T : Tab) (env : Tr AV) (h : Hp) (t : Nat) (x : Operand) : R (AV × Hp) := (tyOf T t).bind fun _ => (ev env x).bind fun v => .ok (.iface t v, h)
abbrev OpF := Tab → Syms → CallF → Tr AV → Hp → R (AV × Hp)
def opR (o : Op) : OpF :=
  Op.rec (motive := fun _ => OpF)
  (fun x _ _ _ env h => opMove env h x)
  (fun x _ _ _ env h => opMove env h x)
  (fun c a b _ _ _ env h => opPick env h c a b)
  (fun t T _ _ _ h => opAlloc T h t)
  (fun _ x _ _ _ env h => opBox env h x)
  (fun t ps T _ _ env h => opBuild T env h t ps.toList)
  (fun t len ps T _ _ env h => opBuildSlice T env h t len ps.toList)
  (fun _ _ _ _ _ _ _ _ _ => .no 80)
  (fun t x T _ _ env h => opLoad T env h t x)
  (fun t x v T _ _ env h => opStore T env h t x v)
  (fun _ _ _ _ _ _ => .no 80)
  (fun _ _ _ _ _ _ => .no 80)
  (fun x _ _ _ env h => opNilCheck env h x)
  (fun b t x y _ T Γ _ env h => opBin T Γ env h b t x y)
  (fun u _ x _ _ _ env h => opUn env h u x)
  (fun src dst x T _ _ env h => opConvert T env h src dst x)
  (fun _ _ _ _ _ _ _ => .no 80)
  (fun t x T _ _ env h => opIface T env h t x)
  (fun f a c _ _ _ env h => opMakeFunc env h f a.toList c.toList)
  (fun _ r _ _ _ _ h => opMakeMap h r)
  (fun _ _ _ _ _ _ _ => .no 80)
  (fun t l c T _ _ env h => opMakeSlice T env h t l c)
  (fun t x lo hi mx T _ _ env h => opSlice T env h t x lo hi mx)
  (fun t x f T _ _ env h => opFieldAddr T env h t x f)
  (fun t x f T _ _ env h => opField T env h t x f)
  (fun t x i T _ _ env h => opIndexAddr T env h t x i)
  (fun t x i T _ _ env h => opIndex T env h t x i)
  (fun t x k ok T _ _ env h => opLookup T env h t x k ok)
  (fun t x k v T _ _ env h => opMapUpdate T env h t x k v)
  (fun _ _ _ _ _ _ _ _ => .no 80)
  (fun _ _ _ _ _ _ _ _ _ => .no 80)
  (fun _ _ _ _ _ _ _ => .no 80)
  (fun _ _ _ _ _ _ _ => .no 80)
  (fun _ _ _ _ _ _ => .no 80)
  (fun _ _ _ _ _ _ _ _ _ => .no 80)
  (fun x i _ _ _ env h => opExtract env h x i)
  (fun c T _ call env h => opCall T call env h c)
  (fun _ _ _ _ _ _ => .no 80)
  (fun _ _ _ _ _ _ => .no 80)
  (fun _ _ _ _ _ _ => .no 80)
  (fun _ _ _ _ _ _ _ => .no 80)
  (fun _ _ _ _ _ _ _ _ => .no 80)
  (fun _ _ _ _ _ _ _ => .no 80)
  o
def op (T : Tab) (Γ : Syms) (call : CallF) (env : Tr AV) (h : Hp) (o : Op) : R (AV × Hp) := opR o T Γ call env h

/-! ### regions, code, calls -/
def wanted (ops : List Oper) (env : Tr AV) (g : Option (Nat × Bool)) : R Bool :=
  Option.rec (motive := fun _ => R Bool) (.ok true) (fun p => match nthL ops p.1 with
    | some og => (match og.dst with
      | some t => (match env.get t with
        | some (.bool c) => .ok (bif c then p.2 else !p.2)
        | some (.tup []) => .ok false
        | none => .ok false
        | _ => .no 81)
      | none => .no 82)
    | none => .no 83) g
def setD (env : Tr AV) (d : Option Tmp) (v : AV) : Tr AV := Option.rec (motive := fun _ => Tr AV) env (fun t => env.putR t v) d
abbrev OpsF := Tab → Syms → CallF → List Oper → Tr AV → Hp → R (Tr AV × Hp)
def opsR (l : List Oper) : OpsF :=
  List.rec (motive := fun _ => OpsF) (fun _ _ _ _ env h => .ok (env, h))
    (fun o _ g T Γ call all env h => (wanted all env o.guard).bind fun b => Bool.rec (motive := fun _ => R (Tr AV × Hp)) (g T Γ call all (setD env o.dst undefA) h)
      ((op T Γ call env h o.op).bind fun r => g T Γ call all (setD env o.dst r.1) r.2) b) l
def ops (T : Tab) (Γ : Syms) (call : CallF) (all : List Oper) (l : List Oper) (env : Tr AV) (h : Hp) : R (Tr AV × Hp) := opsR l T Γ call all env h

/-! ### a region that draws its order: the lexical run, and what each operation reads and writes -/
/-- 0: a plain operation; 1: it reads one thing; 2: it may do more -/
def cls (o : Op) : Nat := match o with
  | .move _ | .pick .. | .build .. | .nilCheck _ | .binOp .. | .unOp .. | .convert .. | .makeInterface .. | .makeFunc .. | .fieldAddr .. | .field .. | .indexAddr .. | .index .. | .extract .. => 0
  | .load .. | .slice .. | .lookup .. => 1
  | .call c => (match c.callee with | .builtin .len => 1 | .builtin .cap => 1 | .builtin .min => 1 | _ => 2)
  | _ => 2
def nameOf (v : R AV) : Nat := match v with
  | .ok (.ptr n _) => Nat.succ n
  | .ok (.slice n ..) => Nat.succ n
  | .ok (.map n) => Nat.succ n
  | _ => 0
/-- what it reads: one more than the name; 0: nothing -/
def rdOf (env : Tr AV) (o : Op) : Nat := match o with
  | .load _ x => nameOf (ev env x)
  | .lookup _ x _ _ => nameOf (ev env x)
  | .slice _ x _ _ _ => nameOf (ev env x)
  | .call c => (match c.args.toList with | [x] => nameOf (ev env x) | _ => 0)
  | _ => 0
/-- the one thing that it may write, where that is known: one more than the name -/
def wrOf (env : Tr AV) (o : Op) : Nat := match o with
  | .store _ x _ => nameOf (ev env x)
  | .mapUpdate _ x _ _ => nameOf (ev env x)
  | .call c => (match c.callee, c.args.toList with
    | .builtin .append, x :: _ => nameOf (ev env x)
    | .builtin .copy, x :: _ => nameOf (ev env x)
    | _, _ => 0)
  | _ => 0
/-- what an operation read; the lowest that it wrote; the only old one that it wrote (0: not known), and where the new ones began -/
structure Rc where
  rd : Nat
  lo : Nat
  wr : Nat
  nx : Nat
/-- a reader beside one that may change -/
def rcOk (r c : Rc) : Bool := bif Nat.ble r.rd c.lo then true else bif Nat.beq c.wr 0 then false else bif Nat.beq r.rd c.wr then false else Nat.ble r.rd c.nx
abbrev DR := R ((Tr AV × Hp) × List Rc)
/-- base, k: where the names begin that are kept for what floats; the place -/
abbrev OpsDF := Tab → Syms → CallF → List Oper → List (Nat × Nat) → Nat → Nat → Tr AV → Hp → DR
def memP (p : Nat × Nat) : List (Nat × Nat) → Bool
  | [] => false
  | q :: l => bif bif Nat.beq p.1 q.1 then Nat.beq p.2 q.2 else false then true else memP p l
def anyFl : List (Nat × Nat) → Bool
  | [] => false
  | q :: l => bif Nat.beq q.1 q.2 then true else anyFl l
def consR (r : Rc) (x : DR) : DR := x.bind fun p => .ok (p.1, r :: p.2)
def someR {α : Type} (x : Option α) : R α := Option.rec (motive := fun _ => R α) (.no 93) (fun a => .ok a) x
/-- An operation that makes one new thing, under the name that is kept for it. -/
def flR (T : Tab) (Γ : Syms) (call : CallF) (n : Nat) (env : Tr AV) (h : Hp) (o : Op) : R (AV × Hp) :=
  (op T Γ call env { heap := .nil, next := n, wl := 0 } o).bind fun r => (someR (r.2.heap.get n)).bind fun ob => .ok (r.1, { heap := h.heap.putR n ob, next := h.next, wl := h.wl })
def opsDR (l : List Oper) : OpsDF :=
  List.rec (motive := fun _ => OpsDF) (fun _ _ _ _ _ _ _ env h => .ok ((env, h), []))
    (fun o _ g T Γ call all prs base k env h => (wanted all env o.guard).bind fun b => Bool.rec (motive := fun _ => DR) (consR ⟨0, h.next, 0, 0⟩ (g T Γ call all prs base (Nat.succ k) (setD env o.dst undefA) h))
      (Bool.rec (motive := fun _ => DR)
        ((op T Γ call env { heap := h.heap, next := h.next, wl := h.next } o.op).bind fun r => consR ⟨rdOf env o.op, lower r.2.wl h.next, wrOf env o.op, h.next⟩ (g T Γ call all prs base (Nat.succ k) (setD env o.dst r.1) { heap := r.2.heap, next := r.2.next, wl := lower h.wl r.2.wl }))
        ((flR T Γ call (Nat.add base k) env h o.op).bind fun r => consR ⟨Nat.succ (Nat.add base k), Nat.add base k, 0, 0⟩ (g T Γ call all prs base (Nat.succ k) (setD env o.dst r.1) r.2))
        (memP (k, k) prs)) b) l
def prsB (rs : List Rc) : List (Nat × Nat) → Bool
  | [] => true
  | p :: l => bif Nat.beq p.1 p.2 then prsB rs l else match nthL rs p.1, nthL rs p.2 with
    | some r, some c => bif rcOk r c then prsB rs l else false
    | _, _ => false
def prsOf : List (Nat × List (Nat × Nat)) → Nat → List (Nat × Nat)
  | [], _ => []
  | p :: l, id => bif Nat.beq p.1 id then p.2 else prsOf l id
def opsD (T : Tab) (Γ : Syms) (call : CallF) (prs : List (Nat × Nat)) (l : List Oper) (env : Tr AV) (h : Hp) : R (Tr AV × Hp) :=
  (opsDR l T Γ call l prs h.next 0 env { heap := h.heap, next := bif anyFl prs then Nat.add h.next (lenL l) else h.next, wl := h.wl }).bind fun p => B (prsB p.2 prs) (.ok p.1) (.no 92)

abbrev Res := R (Ex × Tr AV × Hp)
abbrev Prs := List (Nat × List (Nat × Nat))
abbrev ExecF := Tab → Syms → CallF → Prs → Code → Tr AV → Hp → Res
abbrev CodeF := ExecF → Tab → Syms → CallF → Prs → Tr AV → Hp → Res
def thenR (x : Res) (k : Tr AV → Hp → Res) : Res := x.bind fun r => Ex.rec (motive := fun _ => Res) (k r.2.1 r.2.2) (fun id => .ok (.exit id, r.2)) (.ok (.ret, r.2)) r.1
def inBlock (id : Nat) (x : Res) : Res := x.bind fun r => Ex.rec (motive := fun _ => Res) (.ok (.normal, r.2)) (fun id' => .ok (B (Nat.beq id' id) .normal (.exit id'), r.2)) (.ok (.ret, r.2)) r.1
def condR (v : AV) (a b : Res) : Res := match v with | .bool c => B c a b | _ => .no 85
def normR (x : R (Tr AV × Hp)) : Res := x.bind fun r => .ok (.normal, r)
def execR (c : Code) : CodeF :=
  Code.rec (motive := fun _ => CodeF)
    (fun _ _ _ _ _ env h => .ok (.normal, env, h))
    (fun id os dr _ T Γ call L env h => normR (B dr (opsD T Γ call (prsOf L id) os.toList env h) (ops T Γ call os.toList os.toList env h)))
    (fun a b _ _ g T Γ call L env h => thenR (g T Γ call L a env h) fun env h => g T Γ call L b env h)
    (fun x a b _ _ g T Γ call L env h => (ev env x).bind fun v => condR v (g T Γ call L a env h) (g T Γ call L b env h))
    (fun id b _ g T Γ call L env h => inBlock id (g T Γ call L b env h))
    (fun b _ g T Γ call L env h => thenR (g T Γ call L b env h) fun env h => g T Γ call L (.loop b) env h)
    (fun _ _ _ _ _ _ _ _ _ _ _ _ _ => .no 86)
    (fun id _ _ _ _ _ env h => .ok (.exit id, env, h))
    (fun b _ g T Γ call L env h => g T Γ call L b env h)
    (fun _ _ _ _ _ _ env h => .ok (.normal, env, h))
    (fun _ _ _ _ _ _ _ _ => .no 86)
    (fun _ _ _ _ _ env h => .ok (.ret, env, h))
    (fun _ _ _ _ _ _ _ _ => .no 86) c
def execF (f : Nat) : ExecF :=
  Nat.rec (motive := fun _ => ExecF) (fun _ _ _ _ _ _ _ => .no 84) (fun _ g T Γ call L c env h => execR c g T Γ call L env h) f
def exec (T : Tab) (Γ : Syms) (call : CallF) (L : Prs) (f : Nat) (c : Code) (env : Tr AV) (h : Hp) : Res := execF f T Γ call L c env h

def envOf : List AV → Nat → Tr AV → Tr AV
  | [], _, t => t
  | v :: l, i, t => envOf l (i + 1) (t.putR i v)
def resOf (T : Tab) (env : Tr AV) (h : Hp) : List ResultVar → R (List AV)
  | [] => .ok []
  | .tmp t :: l => (ev env (.tmp t)).bind fun v => (resOf T env h l).bind fun vs => .ok (v :: vs)
  | .cell a t :: l => (opLoad T env h t (.tmp a)).bind fun r => (resOf T env h l).bind fun vs => .ok (r.1 :: vs)
def retOf (vs : List AV) : AV := match vs with | [v] => v | vs => .tup vs

def retR (T : Tab) (fn : Fn) (x : Res) : R (AV × Hp) := x.bind fun r => Ex.rec (motive := fun _ => R (AV × Hp))
  ((resOf T r.2.1 r.2.2 fn.res).bind fun vs => .ok (retOf vs, r.2.2)) (fun _ => .no 89) ((resOf T r.2.1 r.2.2 fn.res).bind fun vs => .ok (retOf vs, r.2.2)) r.1
/-- no: no function beyond the table -/
def noF : CallF := fun _ _ _ => .no 87
/-- g0: what is known of functions beyond the table -/
def callF (T : Tab) (Γ : Syms) (g0 : CallF) (loops : Nat) (d : Nat) : CallF :=
  Nat.rec (motive := fun _ => CallF) g0
    (fun _ g f args h => Option.rec (motive := fun _ => R (AV × Hp)) (g0 f args h) (fun fn =>
      B (Nat.ble (lenL args) fn.ntmps) (retR T fn (exec T Γ g fn.prs loops fn.body (envOf args 0 .nil) h)) (.no 88)) (T.fn.get f)) d
end
end Go.Proofs.YtplblmhnccdgcaaGreat.AM
