/- The abstract evaluator over pure data, and the relation of its values to the model's values in a world. -/
import Derived.Calls
import Derived.Orders
import Derived.Below
set_option linter.unusedSimpArgs false
set_option linter.unusedVariables false
namespace Go.Av

/-- The package-level tables that the code reads: of each its kind of numbers, and they themselves. -/
class Gtab where
  tab : Nat → Option (IntKind × List Int)
abbrev tab0 : Gtab := ⟨fun _ => none⟩

inductive Own where
  | no | full | own
  deriving DecidableEq

/-- Abstract values. 'sl m z l': a slice that reads as the rows 'l', each of z cells. -/
inductive AV where
  | any
  | undef
  | int (k : IntKind) (n : Int)
  | bool (b : Bool)
  | str (s : List UInt8)
  | nilp
  | ptr (o off : Nat)
  | loc (s off : Nat)
  | ip (l : List AV)
  | sl (m : Own) (z : Nat) (l : List (List AV))
  | fn (f : FuncId) (caps : List AV)
  | agg (l : List AV)
  | tup (l : List AV)
  | ss (o off n z : Nat)
  | mp (o : Nat)
  | mapv (l : List (List AV))
  | aggR (l : List AV)

/-- Operands. -/
inductive AR where
  | t (s : Nat)
  | c (a : AV)

/-- The one place in memory that an operation looks at. -/
inductive ML where
  | none | lo (s : Nat) | sh
  deriving DecidableEq

inductive AK where
  | mv | mvo | pick
  | alloc (zero : List AV) | allocS (zero : List AV) | box (n : Nat) | boxS (n : Nat)
  | build (zero : List AV) (pl : List (Nat × Nat))
  | mks (z : Nat) (zero : List AV) (len : Nat) (pl : List Nat)
  | shf (left : Bool)
  | ld (agg : Bool) (n : Nat) | st (n : Nat)
  | nilc
  | bin (op : BinOp) | beq (ne : Bool) | seq (ne : Bool) (ks : List Nat) | un (op : UnOp)
  | slc (str : Bool) (z : Nat) (lo hi : Bool)
  | fa (off : Nat) | fld (agg : Bool) (off n : Nat)
  | ia (z : Nat) | iaA (z len : Nat) | ixs
  | len (str : Bool) | mm (isMax : Bool)
  | app (str : Bool) (z bytes : Nat)
  | mkf (f : FuncId)
  | call (f : FuncId) | callv | callR (f : FuncId) | callvR
  | ext (i : Nat)
  | ldo | sto
  | cvi (k : IntKind) | s2b | b2s | mkl (z : Nat) (zero : List AV) (bytes : Nat) | appS (str : Bool) (z bytes : Nat) | clr (z : Nat) (zero : List AV)
  | slc0 (z : Nat)
  | mkm | lkp (ok : Bool) (agg : Bool) (kk : List Nat) (zero : List AV) | mup (kk : List Nat)
  | ixA (agg : Bool) (z len : Nat)
  | slx (z : Nat) (lo : Bool) | slm | cpy (z : Nat) | appC (z : Nat)
  | buildR (zero : List AV) (pl : List (Nat × Nat)) | sla (len : Nat)

structure AOper where
  dst : Option Nat
  k : AK
  args : List AR
  ml : ML
  dem : Option Nat
  guard : Option (Nat × Bool)

inductive ACode where
  | skip
  | reg (draw : Bool) (al : List Nat) (ops : List AOper) (kill : List Nat)
  | seq (a b : ACode)
  | cond (c : AR) (a b : ACode)
  | block (id : Nat) (a : ACode)
  | loop (kill : List Nat) (a : ACode)
  | exit (id : Nat)
  | ret

/-- The state of an activation: the frame's slots, the local variables in memory, the shared objects. -/
structure AS where
  fr : Nat → AV
  lo : Nat → Option (List AV)
  sh : List (List AV)

def upd {α : Type} (f : Nat → α) (k : Nat) (v : α) : Nat → α := fun i => if i = k then v else f i

def ev (fr : Nat → AV) : AR → AV
  | .t s => fr s
  | .c a => a

abbrev MV := Option (List AV) × List (List AV)

def rdm (σ : AS) : ML → MV
  | .none => (none, [])
  | .lo s => (σ.lo s, [])
  | .sh => (none, σ.sh)

def wrm (σ : AS) (m : MV) : ML → AS
  | .none => σ
  | .lo s => { σ with lo := upd σ.lo s m.1 }
  | .sh => { σ with sh := m.2 }

def demV : AV → AV
  | .sl .own z l => .sl .no z l
  | v => v

/-- A slice as a callee or a cell has it: of its capacity nothing is known. -/
def strV : AV → AV
  | .sl _ z l => .sl .no z l
  | v => v

def flatB : AV → Bool
  | .int .. | .bool _ | .str _ | .nilp => true
  | .sl m _ _ => m != .own
  | _ => false

def refB : AV → Bool
  | .ptr .. | .ss .. | .mp _ => true
  | _ => false

/-- A value as a cell holds it: of a slice's capacity nothing is known, but of an empty one that has none. -/
def cellV : AV → AV
  | .sl .full z [] => .sl .full z []
  | v => strV v
def cellsOfV (n : Nat) : AV → Option (List AV)
  | .agg l => if l.length = n then some l else none
  | v => if n = 1 ∧ flatB (cellV v) = true then some [cellV v] else none

/-- A cell of an object that is known. -/
def frB (x : AV) : Bool := flatB x || refB x

/-- The same of a cell of an object, which may hold references to shared objects, too. -/
def cellsOfO (n : Nat) : AV → Option (List AV)
  | .agg l => if l.length = n then some l else none
  | .aggR l => if l.length = n ∧ l.all frB = true then some l else none
  | v => if n = 1 ∧ (flatB (strV v) || refB v) = true then some [strV v] else none

def nownB : AV → Bool
  | .sl .own _ _ => false
  | _ => true

/-- A shared object that is no more. -/
def dead : List AV := [.undef]

/-- Is it a block of cells (no map, not dead)? -/
def blkB : List AV → Bool
  | [.mapv _] => false
  | [.undef] => false
  | _ => true

def takeC (agg : Bool) (off n : Nat) (cells : List AV) : Option AV :=
  let part := (cells.drop off).take n
  if part.length = n then (if agg then some (.agg part) else match part with | [c] => some c | _ => none) else none

/-- What a load of an object's cells gives. -/
def ldV : AV → Option AV
  | .mapv _ => none
  | .undef => none
  | .sl .own z l => some (.sl .no z l)
  | x => some x
def ldC (agg : Bool) (off n : Nat) (cells : List AV) : Option AV :=
  if agg then
    (if ((cells.drop off).take n).length = n ∧ ((cells.drop off).take n).all (fun x => flatB (demV x)) = true then some (.agg (((cells.drop off).take n).map demV)) else none)
  else match cells[off]? with
    | some x => ldV x
    | none => none

def putC (off : Nat) (cs cells : List AV) : Option (List AV) :=
  if off + cs.length ≤ cells.length then some (cells.take off ++ cs ++ cells.drop (off + cs.length)) else none

def shA (left : Bool) : AV → AV → Option AV
  | .int k a, .int _ b => if 0 ≤ b then (if left then some (.int k (k.wrap (a * 2 ^ (min b.toNat k.bits)))) else some (.int k (a.fdiv (2 ^ (min b.toNat k.bits))))) else none
  | _, _ => none

def binA (op : BinOp) : AV → AV → Option AV
  | .int k a, .int k' b =>
    if k = k' then
      match op with
      | .add => some (.int k (k.wrap (a + b)))
      | .sub => some (.int k (k.wrap (a - b)))
      | .mul => some (.int k (k.wrap (a * b)))
      | .quo => if b = 0 then none else some (.int k (k.wrap (a.tdiv b)))
      | .rem => if b = 0 then none else some (.int k (a.tmod b))
      | .eql => some (.bool (a == b))
      | .neq => some (.bool (a != b))
      | .lss => some (.bool (decide (a < b)))
      | .leq => some (.bool (decide (a ≤ b)))
      | .gtr => some (.bool (decide (b < a)))
      | .geq => some (.bool (decide (b ≤ a)))
      | .and => some (.int k (k.wrap (((a % 2 ^ k.bits).toNat &&& (b % 2 ^ k.bits).toNat : Nat) : Int)))
      | .or => some (.int k (k.wrap (((a % 2 ^ k.bits).toNat ||| (b % 2 ^ k.bits).toNat : Nat) : Int)))
      | _ => none
    else none
  | .str a, .str b =>
    match op with
    | .add => if a.length + b.length ≤ 140737488355328 then some (.str (a ++ b)) else none
    | .eql => some (.bool (a == b))
    | .neq => some (.bool (a != b))
    | .lss => some (.bool (Op.bytesLess a b))
    | .leq => some (.bool (Op.bytesLess a b || a == b))
    | .gtr => some (.bool !(Op.bytesLess a b || a == b))
    | .geq => some (.bool !(Op.bytesLess a b))
    | _ => none
  | _, _ => none

/-- Equality of the cells of two structs: kinds 0 (integers), 1 (bools), 2 (strings). -/
def eqL : List Nat → List AV → List AV → Option Bool
  | [], [], [] => some true
  | 0 :: ks, .int k a :: xs, .int k' b :: ys => if k = k' then (eqL ks xs ys).map fun r => (a == b) && r else none
  | 1 :: ks, .bool a :: xs, .bool b :: ys => (eqL ks xs ys).map fun r => (a == b) && r
  | 2 :: ks, .str a :: xs, .str b :: ys => (eqL ks xs ys).map fun r => (a == b) && r
  | _, _, _ => none

def fillA : List AV → List (Nat × Nat) → List AV → Option (List AV)
  | cells, [], [] => some cells
  | cells, (off, n) :: pl, x :: xs =>
    match cellsOfV n x with
    | some cs => match putC off cs cells with
      | some c' => fillA c' pl xs
      | none => none
    | none => none
  | _, _, _ => none

/-- The same, with references among the parts. -/
def fillR : List AV → List (Nat × Nat) → List AV → Option (List AV)
  | cells, [], [] => some cells
  | cells, (off, n) :: pl, x :: xs =>
    match cellsOfO n x with
    | some cs => match putC off cs cells with
      | some c' => fillR c' pl xs
      | none => none
    | none => none
  | _, _, _ => none

/-- Rows of z cells out of a list of cells. -/
def rowsOf (z : Nat) : Nat → List AV → List (List AV)
  | 0, _ => []
  | n + 1, cs => cs.take z :: rowsOf z n (cs.drop z)

def zeroRow (zero : List AV) : Nat → List AV
  | 0 => []
  | n + 1 => zero ++ zeroRow zero n

def natOf (n : Int) : Option Nat := if 0 ≤ n then some n.toNat else none

def boundA : Option AV → Nat → Option Nat
  | none, d => some d
  | some (.int _ n), _ => natOf n
  | some _, _ => none

def sliceA (str : Bool) (z : Nat) (x : AV) (lo : Option AV) (hi : Option AV) : Option AV :=
  match str, x with
  | false, .sl _ z' l =>
    match boundA lo 0, boundA hi l.length with
    | some i, some j => if i ≤ j ∧ j ≤ l.length ∧ (z' = z ∨ l = []) then some (.sl .no z ((l.take j).drop i)) else none
    | _, _ => none
  | false, .ss o off n z' =>
    match boundA lo 0, boundA hi n with
    | some i, some j => if i ≤ j ∧ j ≤ n ∧ z' = z then (if i = 0 ∨ i < j then some (.ss o (off + i * z) (j - i) z) else some (.sl .no z [])) else none
    | _, _ => none
  | true, .str s =>
    match boundA lo 0, boundA hi s.length with
    | some i, some j => if i ≤ j ∧ j ≤ s.length then some (.str ((s.take j).drop i)) else none
    | _, _ => none
  | _, _ => none

def bytesRows (s : List UInt8) : List (List AV) := s.map fun b => [.int .u8 (b.toNat : Int)]

def rowsA (str : Bool) (z : Nat) : AV → Option (List (List AV))
  | .sl _ z2 l2 => if str = false ∧ (z2 = z ∨ l2 = []) then some l2 else none
  | .str s => if str = true ∧ z = 1 then some (bytesRows s) else none
  | _ => none

/-- The rows of n elements of z cells, read off an object. -/
def rowsC (off n z : Nat) (cells : List AV) : Option (List (List AV)) :=
  if 0 < z ∧ off + n * z ≤ cells.length ∧ ((cells.drop off).take (n * z)).all (fun x => flatB (demV x)) = true then some (rowsOf z n (((cells.drop off).take (n * z)).map demV)) else none

/-- What a slice of a shared object reads as. -/
def snapV (sh : List (List AV)) : AV → Option AV
  | .ss o off n z => (sh[o]?).bind fun cells => (rowsC off n z cells).map fun l => .sl .no z l
  | x => some x

def snapL (sh : List (List AV)) : List AV → Option (List AV)
  | [] => some []
  | x :: xs => match snapV sh x, snapL sh xs with
    | some y, some ys => some (y :: ys)
    | _, _ => none

def byteOf : AV → Option UInt8
  | .int .u8 n => some (UInt8.ofNat n.toNat)
  | _ => none
def bytesOfR : List (List AV) → Option (List UInt8)
  | [] => some []
  | [c] :: r => match byteOf c, bytesOfR r with
    | some b, some bs => some (b :: bs)
    | _, _ => none
  | _ :: _ => none

/-- The rows that are appended. -/
def rowsS (str : Bool) (z : Nat) (sh : List (List AV)) : AV → Option (List (List AV))
  | .ss o off n z' => if str = false ∧ z' = z then (sh[o]?).bind fun cells => rowsC off n z cells else none
  | x => rowsA str z x

/-- Keys of a map: kinds as of eqL, with one kind alone for a key of one cell. -/
def keyEq (kk : List Nat) (x y : AV) : Option Bool := eqL kk [x] [y]
def lkA (kk : List Nat) (k : AV) : List (List AV) → Option (Option AV)
  | [] => some none
  | [k', v] :: r => match keyEq kk k k' with
    | some true => some (some v)
    | some false => lkA kk k r
    | none => none
  | _ :: _ => none
def muA (kk : List Nat) (k v : AV) : List (List AV) → Option (List (List AV))
  | [] => some [[k, v]]
  | [k', v'] :: r => match keyEq kk k k' with
    | some true => some ([k, v] :: r)
    | some false => (muA kk k v r).map ([k', v'] :: ·)
    | none => none
  | _ :: _ => none
def lkR (ok agg : Bool) (zero : List AV) : Option AV → Option AV
  | some v => some (if ok then .tup [v, .bool true] else v)
  | none => match agg, zero with
    | true, z => some (if ok then .tup [.agg z, .bool false] else .agg z)
    | false, [z] => some (if ok then .tup [z, .bool false] else z)
    | _, _ => none
def mapOf (sh : List (List AV)) (o : Nat) : Option (List (List AV)) :=
  match sh[o]? with
  | some [.mapv l] => some l
  | _ => none

abbrev Calls' := FuncId → List AV → List (List AV) → Option (AV × List (List AV))

def capB (p : Bool) : AV → Bool
  | .ptr .. => p
  | .ss .. => p
  | .mp _ => p
  | c => flatB c

/-- What may be handed to a callee: no local variable's address; shared objects only where p. -/
def argB (p : Bool) : AV → Bool
  | .loc .. => false
  | .tup _ => false
  | .mapv _ => false
  | .aggR _ => false
  | .ptr .. => p
  | .ss .. => p
  | .mp _ => p
  | .fn _ caps => caps.all (capB p)
  | _ => true

def pv : Bool → AV → AV
  | true, x => demV x
  | false, x => strV x

def callK (G : Calls') (ml : ML) (f : FuncId) (xs : List AV) (m : MV) : Option (AV × MV) :=
  match ml with
  | .sh => if xs.all (argB true) then (G f (xs.map demV) m.2).map fun r => (r.1, (m.1, r.2)) else none
  | .none => if xs.all (argB false) then (G f (xs.map strV) []).bind fun r => if r.2.isEmpty then some (r.1, m) else none else none
  | _ => none

/-- Values in which there is no memory. -/
def scalarB : AV → Bool
  | .int .. | .bool _ | .str _ | .nilp => true
  | _ => false
def aggScal : AV → Bool
  | .agg l => l.all scalarB
  | x => scalarB x
def scalB : AV → Bool
  | .tup l => l.all scalarB
  | x => scalarB x
/-- A call that reads slices of shared objects, and gives nothing of them back. -/
def callRK (G : Calls') (ml : ML) (f : FuncId) (xs : List AV) (m : MV) : Option (AV × MV) :=
  match ml with
  | .sh => (snapL m.2 xs).bind fun ys => if ys.all (argB false) then (G f (ys.map strV) []).bind fun r => if r.2.isEmpty && scalB r.1 then some (r.1, m) else none else none
  | _ => none

/-- 'x[lo:hi]' where hi may lie beyond the length, in what is known of the object. -/
def slxA (z : Nat) (sh : List (List AV)) (x : AV) (lo : Option AV) (hi : AV) : Option AV :=
  match x with
  | .ss o off n z' => match boundA lo 0, boundA (some hi) n, sh[o]? with
    | some i, some j, some cells => if i ≤ j ∧ off + j * z ≤ cells.length ∧ z' = z ∧ 1 < z ∧ blkB cells then (if i = 0 ∨ i < j then some (.ss o (off + i * z) (j - i) z) else some (.sl .no z [])) else none
    | _, _, _ => none
  | x => sliceA false z x lo (some hi)
/-- The bounds of 'x[i:j:k]' hold. -/
def slmA : AV → AV → AV → AV → Bool
  | .ss _ _ n _, .int _ i, .int _ j, .int _ k => decide (0 ≤ i ∧ i ≤ j ∧ j ≤ k ∧ k ≤ n)
  | .sl _ _ l, .int _ i, .int _ j, .int _ k => decide (0 ≤ i ∧ i ≤ j ∧ j ≤ k ∧ k ≤ l.length)
  | _, _, _, _ => false
/-- The first n elements of a slice of an object. -/
def truncV (n : Nat) : AV → AV
  | .ss o off k z => .ss o off (min k n) z
  | x => x
def cpyA (z : Nat) (sh : List (List AV)) (y x : AV) : Option (AV × List (List AV)) :=
  match x with
  | .ss o off n z' => (rowsS false z sh (truncV n y)).bind fun l2 => if z' = z ∧ 0 < z ∧ l2.length ≤ n then (sh[o]?).bind fun cells => if blkB cells then (putC off l2.flatten cells).map fun c' => (.int .i64 (l2.length : Int), sh.set o c') else none else none
  | _ => none
def appCA (z : Nat) (sh : List (List AV)) (l2 : Option (List (List AV))) (x : AV) : Option (AV × List (List AV)) :=
  l2.bind fun l2 => match x with
    | .ss o off n z' => if off = 0 ∧ z' = z ∧ 1 < z then (sh[o]?).bind fun cells => if blkB cells ∧ (n + l2.length) * z ≤ cells.length then (putC (n * z) l2.flatten cells).map fun c' => (.ss o 0 (n + l2.length) z, sh.set o c') else none else none
    | _ => none

/-- What an operation that is no call gives: the value for its slot, and the place in memory behind it. -/
def kf0 (d : Nat) (ml : ML) : AK → List AV → MV → Option (AV × MV)
  | .mv, [x], m => some (demV x, m)
  | .mvo, [x], m => some (x, m)
  | .pick, [.bool c, a, b], m => some (demV (if c then a else b), m)
  | .alloc zero, [], m => if ml = .lo d ∧ m.1.isNone then some (.loc d 0, (some zero, m.2)) else none
  | .allocS zero, [], m => if ml = .sh then some (.ptr m.2.length 0, (m.1, m.2 ++ [zero])) else none
  | .box n, [x], m => if ml = .lo d ∧ m.1.isNone then (cellsOfV n x).map fun cs => (.loc d 0, (some cs, m.2)) else none
  | .boxS n, [x], m => if ml = .sh then (cellsOfV n x).map fun cs => (.ptr m.2.length 0, (m.1, m.2 ++ [cs])) else none
  | .build zero pl, xs, m => (fillA zero pl xs).map fun cs => (.agg cs, m)
  | .buildR zero pl, xs, m => (fillR zero pl xs).map fun cs => (.aggR cs, m)
  | .sla len, [.ptr o off, .int _ i, .int _ j], m => if ml = .sh ∧ 0 ≤ i ∧ i < j ∧ j ≤ len then (m.2[o]?).bind fun cells => if blkB cells ∧ off + len ≤ cells.length then some (.ss o (off + i.toNat) (j.toNat - i.toNat) 1, m) else none else none
  | .mks z zero len pl, xs, m =>
    (fillA (zeroRow zero len) (pl.map fun i => (i * z, z)) xs).map fun cs => (.sl .full z (rowsOf z len cs), m)
  | .ld agg n, [a], m =>
    match a with
    | .loc s off => if ml = .lo s then m.1.bind fun cells => (ldC agg off n cells).map fun v => (v, m) else none
    | .ptr o off => if ml = .sh then m.2[o]?.bind fun cells => (ldC agg off n cells).map fun v => (v, m) else none
    | .ip cells => (takeC agg 0 n cells).map fun v => (v, m)
    | _ => none
  | .st n, [a, x], m =>
    match a with
    | .loc s off => if ml = .lo s then m.1.bind fun cells => (cellsOfO n x).bind fun cs => (putC off cs cells).map fun c' => (.any, (some c', m.2)) else none
    | .ptr o off => if ml = .sh then m.2[o]?.bind fun cells => if blkB cells then (cellsOfO n x).bind fun cs => (putC off cs cells).map fun c' => (.any, (m.1, m.2.set o c')) else none else none
    | _ => none
  | .ldo, [.ptr o off], m =>
    if ml = .sh then m.2[o]?.bind fun cells => if blkB cells then (cells[off]?).bind fun x => match x with
      | .sl .own z l => some (x, (m.1, m.2.set o (cells.set off (.sl .no z l))))
      | .sl .full _ _ => some (x, m)
      | _ => none else none else none
  | .sto, [.ptr o off, x], m =>
    if ml = .sh then m.2[o]?.bind fun cells => if blkB cells ∧ off < cells.length then match x with
      | .sl _ _ _ => some (.any, (m.1, m.2.set o (cells.set off x)))
      | _ => none else none else none
  | .nilc, [x], m =>
    match x with
    | .ptr .. | .loc .. | .ip _ => some (x, m)
    | _ => none
  | .shf l, [x, y], m => (shA l x y).map fun v => (v, m)
  | .cvi k, [.int _ n], m => some (.int k (k.wrap n), m)
  | .s2b, [.str s], m => if ml = .sh ∧ s.length ≤ 140737488355328 then some (.ss m.2.length 0 s.length 1, (m.1, m.2 ++ [s.map fun b => .int .u8 (b.toNat : Int)])) else none
  | .b2s, [x], m =>
    match x with
    | .sl _ z l => if z = 1 then (bytesOfR l).map fun s => (.str s, m) else none
    | .ss _ _ _ z => if ml = .sh ∧ z = 1 then (rowsS false 1 m.2 x).bind fun l => (bytesOfR l).map fun s => (.str s, m) else none
    | _ => none
  | .mkl z zero bytes, [.int k n, .int k' c], m =>
    if ml = .sh ∧ k = .i64 ∧ k' = .i64 ∧ 0 ≤ n ∧ n ≤ c ∧ c * bytes ≤ 140737488355328 ∧ c ≤ 4611686018427387904 ∧ 0 < z ∧ zero.length = z then some (.ss m.2.length 0 n.toNat z, (m.1, m.2 ++ [zeroRow zero n.toNat])) else none
  | .appS str z bytes, [x, y], m =>
    if ml = .sh then (rowsS str z m.2 y).bind fun l2 => match x with
      | .sl .full _ [] => if l2 = [] then some (.sl .full z [], m) else if 0 < z ∧ l2.length * bytes ≤ 140737488355328 ∧ l2.length ≤ 4611686018427387904 then some (.ss m.2.length 0 l2.length z, (m.1, m.2 ++ [l2.flatten])) else none
      | .ss o off n z' => if off = 0 ∧ z' = z ∧ 0 < z ∧ (n + l2.length) * bytes ≤ 140737488355328 ∧ n + l2.length ≤ 4611686018427387904 then
          (m.2[o]?).bind fun cells => if blkB cells ∧ n * z = cells.length ∧ cells.all nownB then some (.ss m.2.length 0 (n + l2.length) z, (m.1, m.2.set o dead ++ [cells ++ l2.flatten])) else none
        else none
      | _ => none
    else none
  | .clr z zero, [x], m =>
    match x with
    | .sl _ _ [] => some (.tup [], m)
    | .ss o off n z' => if ml = .sh ∧ z' = z ∧ zero.length = z then (m.2[o]?).bind fun cells => if blkB cells then (putC off (zeroRow zero n) cells).map fun c' => (.tup [], (m.1, m.2.set o c')) else none else none
    | _ => none
  | .slc0 z, [x], m =>
    match x with
    | .sl _ _ _ => some (.sl .full z [], m)
    | .ss _ _ _ _ => some (.sl .full z [], m)
    | _ => none
  | .mkm, [], m => if ml = .sh then some (.mp m.2.length, (m.1, m.2 ++ [[.mapv []]])) else none
  | .lkp ok agg kk zero, [.mp o, k], m =>
    if ml = .sh ∧ scalarB k = true then (mapOf m.2 o).bind fun l => (lkA kk k l).bind fun r => (lkR ok agg zero r).map fun v => (v, m)
    else none
  | .mup kk, [.mp o, k, v], m =>
    if ml = .sh ∧ aggScal k = true ∧ aggScal v = true then
      (mapOf m.2 o).bind fun l => (muA kk k v l).map fun l' => (.any, (m.1, m.2.set o [.mapv l'])) else none
  | .ixA agg z len, [.agg l, .int _ i], m => if 0 ≤ i ∧ i < len ∧ l.length = len * z then (takeC agg (i.toNat * z) z l).map fun v => (v, m) else none
  | .bin op, [x, y], m => (binA op x y).map fun v => (v, m)
  | .beq ne, [.bool x, .bool y], m => some (.bool (if ne then x != y else x == y), m)
  | .seq ne ks, [.agg x, .agg y], m => (eqL ks x y).map fun b => (.bool (if ne then !b else b), m)
  | .un op, [x], m =>
    match op, x with
    | .neg, .int k n => some (.int k (k.wrap (0 - n)), m)
    | .not, .bool b => some (.bool !b, m)
    | _, _ => none
  | .slc str z false false, [x], m => (sliceA str z x none none).map fun v => (v, m)
  | .slc str z true false, [x, l], m => (sliceA str z x (some l) none).map fun v => (v, m)
  | .slc str z false true, [x, h], m => (sliceA str z x none (some h)).map fun v => (v, m)
  | .slc str z true true, [x, l, h], m => (sliceA str z x (some l) (some h)).map fun v => (v, m)
  | .fa off, [a], m =>
    match a with
    | .loc s o => some (.loc s (o + off), m)
    | .ptr i o => some (.ptr i (o + off), m)
    | .ip l => some (.ip (l.drop off), m)
    | _ => none
  | .fld agg off n, [.agg l], m => (takeC agg off n l).map fun v => (v, m)
  | .ia z, [.sl _ z' l, .int _ i], m =>
    if z' = z ∧ 0 ≤ i then (l[i.toNat]?).map fun e => (.ip e, m) else none
  | .ia z, [.ss o off n z', .int _ i], m =>
    if z' = z ∧ 0 ≤ i ∧ i < n then some (.ptr o (off + i.toNat * z), m) else none
  | .iaA z len, [a, .int _ i], m =>
    if 0 ≤ i ∧ i < len then
      match a with
      | .loc s o => some (.loc s (o + i.toNat * z), m)
      | .ptr p o => some (.ptr p (o + i.toNat * z), m)
      | .ip l => some (.ip (l.drop (i.toNat * z)), m)
      | _ => none
    else none
  | .ixs, [.str s, .int _ i], m => if 0 ≤ i then (s[i.toNat]?).map fun b => (.int .u8 (b.toNat : Int), m) else none
  | .len false, [.sl _ _ l], m => some (.int .i64 (l.length : Int), m)
  | .len false, [.ss _ _ n _], m => some (.int .i64 (n : Int), m)
  | .len true, [.str s], m => some (.int .i64 (s.length : Int), m)
  | .mm b, [.int k x, .int k' y], m => if k = k' then some (.int k (if b then (if x < y then y else x) else (if y < x then y else x)), m) else none
  | .app str z bytes, [.sl md z' l, y], m =>
    (rowsA str z y).bind fun l2 => if (z' = z ∨ (l = [] ∧ md = .full)) ∧ md ≠ .no ∧ 0 < z ∧ (l.length + l2.length) * bytes ≤ 140737488355328 ∧ l.length + l2.length ≤ 4611686018427387904 then some (.sl .own z (l ++ l2), m) else none
  | .mkf f, caps, m => if caps.all (capB true) then some (.fn f caps, m) else none
  | .ext i, [.tup l], m => (l[i]?).map fun v => (v, m)
  | .slx z false, [x, h], m => if ml = .sh then (slxA z m.2 x none h).map fun v => (v, m) else none
  | .slx z true, [x, l, h], m => if ml = .sh then (slxA z m.2 x (some l) h).map fun v => (v, m) else none
  | .slm, [x, i, j, k], m => if slmA x i j k = true then some (.any, m) else none
  | .cpy z, [x, y], m => if ml = .sh then (cpyA z m.2 y x).map fun r => (r.1, (m.1, r.2)) else none
  | .appC z, [x, y], m => if ml = .sh then (appCA z m.2 (rowsS false z m.2 y) x).map fun r => (r.1, (m.1, r.2)) else none
  | _, _, _ => none

def callvK (G : Calls') (ml : ML) (xs : List AV) (m : MV) : Option (AV × MV) :=
  match xs with
  | .fn f caps :: xs => callK G ml f (xs ++ caps) m
  | _ => none

def callvRK (G : Calls') (ml : ML) (xs : List AV) (m : MV) : Option (AV × MV) :=
  match xs with
  | .fn f caps :: xs => callRK G ml f (xs ++ caps) m
  | _ => none

/-- What an operation gives. -/
def kf (G : Calls') (d : Nat) (ml : ML) (k : AK) (xs : List AV) (m : MV) : Option (AV × MV) :=
  match k with
  | .call f => callK G ml f xs m
  | .callv => callvK G ml xs m
  | .callR f => callRK G ml f xs m
  | .callvR => callvRK G ml xs m
  | k => kf0 d ml k xs m

def guardA (fr : Nat → AV) : Option (Nat × Bool) → Option Bool
  | none => some true
  | some (s, want) => match fr s with
    | .bool b => some (b == want)
    | .undef => some false
    | _ => none

def put (σ : AS) (d : Option Nat) (v : AV) : AS :=
  match d with
  | some d => { σ with fr := upd σ.fr d v }
  | none => σ

def demS (σ : AS) (d : Option Nat) : AS :=
  match d with
  | some d => { σ with fr := upd σ.fr d (demV (σ.fr d)) }
  | none => σ

def stepA (G : Calls') (o : AOper) (σ : AS) : Option AS :=
  match guardA σ.fr o.guard with
  | some true =>
    match kf G (o.dst.getD 0) o.ml o.k (o.args.map (ev σ.fr)) (rdm σ o.ml) with
    | some (v, m) => some (put (demS (wrm σ m o.ml) o.dem) o.dst v)
    | none => none
  | some false => some (put σ o.dst .undef)
  | none => none

def runA (G : Calls') : List AOper → AS → Option AS
  | [], σ => some σ
  | o :: os, σ => (stepA G o σ).bind (runA G os)

/-- Slots that point to one of the variables 'al' are forgotten, and the variables with them. -/
def scrubV (al : List Nat) : AV → AV
  | .loc s off => if s ∈ al then .any else .loc s off
  | v => v

def scrub (al : List Nat) (σ : AS) : AS :=
  { σ with fr := fun t => scrubV al (σ.fr t), lo := fun s => if s ∈ al then none else σ.lo s }

def forget (kill : List Nat) (σ : AS) : AS :=
  { σ with fr := fun t => if t ∈ kill then .any else scrubV kill (σ.fr t), lo := fun s => if s ∈ kill then none else σ.lo s }

inductive AX where
  | norm | ex (id : Nat) | ret
  deriving DecidableEq

def iterA (f : AS → Option (AX × AS)) : Nat → AS → Option (AX × AS)
  | 0, _ => none
  | n + 1, σ => match f σ with
    | some (.norm, σ') => iterA f n σ'
    | r => r

def execA (n : Nat) (G : Calls') : ACode → AS → Option (AX × AS)
  | .skip, σ => some (.norm, σ)
  | .reg _ al ops kill, σ => (runA G ops (scrub al σ)).map fun σ' => (.norm, forget kill σ')
  | .seq a b, σ => match execA n G a σ with
    | some (.norm, σ') => execA n G b σ'
    | r => r
  | .cond c a b, σ => match ev σ.fr c with
    | .bool t => if t then execA n G a σ else execA n G b σ
    | _ => none
  | .block id a, σ => match execA n G a σ with
    | some (.ex i, σ') => if i = id then some (.norm, σ') else some (.ex i, σ')
    | r => r
  | .loop kill a, σ => iterA (fun σ => execA n G a (forget kill σ)) n σ
  | .exit id, σ => some (.ex id, σ)
  | .ret, σ => some (.ret, σ)

/-- A result: a slot, or a variable in memory that a slot points to. -/
inductive ARes where
  | tmp (t : Nat)
  | tmpD (t : Nat)
  | cell (t : Nat) (agg : Bool) (n : Nat)

def resA (σ : AS) : ARes → Option AV
  | .tmp t => some (strV (σ.fr t))
  | .tmpD t => some (demV (σ.fr t))
  | .cell t agg n => match σ.fr t with
    | .loc s off => (σ.lo s).bind fun cells => ldC agg off n cells
    | .ptr o off => (σ.sh[o]?).bind fun cells => if blkB cells then ldC agg off n cells else none
    | _ => none

/-- A slice of an object that goes out with the call is handed out as what it reads as. -/
def isDead : List AV → Bool
  | [.undef] => true
  | _ => false
/-- No object has died. -/
def sameDead : List (List AV) → List (List AV) → Bool
  | [], _ => true
  | x :: xs, y :: ys => (isDead x || !isDead y) && sameDead xs ys
  | _ :: _, [] => false
def frzV (keep : Bool) (sh0 sh : List (List AV)) : AV → Option AV
  | .ss o off n z => if keep then some (.ss o off n z) else if sh0.length ≤ o ∧ sameDead sh0 sh = true then snapV sh (.ss o off n z) else none
  | x => some x

def resultsA (keep : Bool) (sh0 : List (List AV)) (σ : AS) : List ARes → Option (List AV)
  | [] => some []
  | r :: rs => match (resA σ r).bind (frzV keep sh0 σ.sh), resultsA keep sh0 σ rs with
    | some v, some vs => some (v :: vs)
    | _, _ => none

structure AFun where
  nargs : Nat
  keep : Bool        -- shared objects that the call made are kept (it hands out a pointer)
  body : ACode
  res : List ARes

def initA (args : List AV) (sh : List (List AV)) : AS := { fr := fun t => (args[t]?).getD .any, lo := fun _ => none, sh := sh }

/-- A value that may be handed out when the shared objects that the call made are dropped. -/
def plainB : AV → Bool
  | .int .. | .bool _ | .str _ | .nilp | .sl .. | .agg _ => true
  | _ => false
def outB (k : Bool) : AV → Bool
  | .ptr .. => k
  | .ss .. => k
  | .mp _ => k
  | v => plainB v

def refLt (n : Nat) : AV → Bool
  | .ptr o _ => decide (o < n)
  | .ss o _ _ _ => decide (o < n)
  | .mp o => decide (o < n)
  | _ => true

def packA (keep : Bool) (n0 : Nat) (vs : List AV) (sh : List (List AV)) : Option (AV × List (List AV)) :=
  if vs.all (outB keep) = true ∧ (keep = true ∨ ((sh.take n0).all fun c => c.all (refLt n0)) = true) then
    some ((match vs with | [v] => v | vs => .tup vs), if keep then sh else sh.take n0)
  else none

def finA (F : AFun) (sh0 : List (List AV)) : Option (AX × AS) → Option (AV × List (List AV))
  | some (.ex _, _) => none
  | some (_, σ) => match resultsA F.keep sh0 σ F.res with
    | some vs => packA F.keep sh0.length vs σ.sh
    | none => none
  | none => none

def callA (n : Nat) (G : Calls') (F : AFun) (args : List AV) (sh : List (List AV)) : Option (AV × List (List AV)) :=
  if args.length = F.nargs then finA F sh (execA n G F.body (initA args sh)) else none

/-- The functions by depth: B are those whose contracts are proved apart. -/
def funA (B : Calls') (T : FuncId → Option AFun) : Nat → Calls'
  | 0 => B
  | n + 1 => fun f args sh => match B f args sh with
    | some r => some r
    | none => match T f with
      | some F => callA n (funA B T n) F args sh
      | none => none

end Go.Av
