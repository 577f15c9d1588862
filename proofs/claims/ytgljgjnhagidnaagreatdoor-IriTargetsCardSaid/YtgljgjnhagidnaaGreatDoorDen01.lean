/- The functional semantics: abstract values, an abstract heap, the monad M, and the operations on them. No program in sight. -/
import GoSem.Step
import Derived.Laws.Entries
import Derived.Below
import Derived.Lib.Strings
import Derived.Laws.StructEq
import Derived.Laws.Slices
namespace Go.Dn

/-- Abstract values: addresses are (id, offset). 'bad' stands for any value. -/
inductive AV where
  | bool (b : Bool)
  | int (k : IntKind) (n : Int)
  | str (s : List UInt8)
  | ptr (p : Option (Nat × Nat))
  | slN
  | sl (i o len kc z : Nat)
  | map (r : Option Nat)
  | func (f : FuncId) (first captured : List AV)
  | nilFunc
  | yld (i : Nat)
  | iface (t : TypeId) (v : AV)
  | nilIface
  | agg (cs : List AV)
  | tuple (vs : List AV)
  | bad
  deriving Inhabited

/-- Who may write a row: nobody ('ro'); its owner, behind the first f cells, which are a string's by now ('own f'); its owner ('bs': it was made of a string's bytes). -/
inductive Rw where
  | ro
  | own (f : Nat)
  | bs
  deriving Inhabited
def Rw.mine : Rw → Bool
  | .ro => false
  | _ => true
def Rw.ok : Rw → Nat → Bool
  | .ro, _ => false
  | .own f, o => Nat.ble f o
  | .bs, _ => true
/-- Objects of the abstract heap. -/
inductive AObj where
  | row (cs : List AV) (elem : TypeId) (rw : Rw)
  | map (es : List (AV × AV))
  | iter (s : List UInt8) (pos : Nat)
  | loop (fn nt : Nat) (lv : List Nat) (ts : List AV) (ps : List Nat) (assign body : Code) (st : Nat) (pend : Option Code)
  | gone
  deriving Inhabited

/-- A map from numbers, as a binary tree. -/
inductive Tr (α : Type) where
  | nil
  | node (l : Tr α) (o : Option α) (r : Tr α)

namespace Tr
variable {α : Type}
def get : Tr α → Nat → Option α
  | nil, _ => none
  | node l o r, i => bif Nat.beq i 0 then o else bif Nat.beq (i % 2) 1 then get l (i / 2) else get r (i / 2 - 1)
def setF : Nat → Tr α → Nat → α → Tr α
  | 0, t, _, _ => t
  | f + 1, nil, i, a => bif Nat.beq i 0 then node nil (some a) nil else bif Nat.beq (i % 2) 1 then node (setF f nil (i / 2) a) none nil else node nil none (setF f nil (i / 2 - 1) a)
  | f + 1, node l o r, i, a => bif Nat.beq i 0 then node l (some a) r else bif Nat.beq (i % 2) 1 then node (setF f l (i / 2) a) o r else node l o (setF f r (i / 2 - 1) a)
def set (t : Tr α) (i : Nat) (a : α) : Tr α := setF (i + 1) t i a
end Tr

abbrev Heap := Tr AObj
/-- Computations: from a heap and the next free id. -/
def M (α : Type) : Type := Heap → Nat → Option (α × Heap × Nat)

namespace M
variable {α β : Type}
def fail : M α := fun _ _ => none
def ret (a : α) : M α := fun h n => some (a, h, n)
def bd (m : M α) (f : α → M β) : M β := fun h n =>
  match m h n with
  | some (a, h', n') => f a h' n'
  | none => none
def ofO (o : Option α) : M α := fun h n =>
  match o with
  | some a => some (a, h, n)
  | none => none
end M
open M

/-! ### Numbers -/
def ltI : Int → Int → Bool
  | .ofNat a, .ofNat b => Nat.blt a b
  | .ofNat _, .negSucc _ => false
  | .negSucc _, .ofNat _ => true
  | .negSucc a, .negSucc b => Nat.blt b a
def leI (a b : Int) : Bool := !ltI b a
def eqI : Int → Int → Bool
  | .ofNat a, .ofNat b => Nat.beq a b
  | .negSucc a, .negSucc b => Nat.beq a b
  | _, _ => false
def wrS (m h : Int) (n : Int) : Int := bif ltI (n % m) h then n % m else n % m - m
def wr : IntKind → Int → Int
  | .i64, n => wrS 18446744073709551616 9223372036854775808 n
  | .i32, n => wrS 4294967296 2147483648 n
  | .i16, n => wrS 65536 32768 n
  | .i8, n => wrS 256 128 n
  | .u64, n => n % 18446744073709551616
  | .u32, n => n % 4294967296
  | .u16, n => n % 65536
  | .u8, n => n % 256
def eqK : IntKind → IntKind → Bool
  | .i64, .i64 | .i32, .i32 | .i16, .i16 | .i8, .i8 | .u64, .u64 | .u32, .u32 | .u16, .u16 | .u8, .u8 => true
  | _, _ => false
def beqL : List UInt8 → List UInt8 → Bool
  | [], [] => true
  | a :: x, b :: y => bif Nat.beq a.toNat b.toNat then beqL x y else false
  | _, _ => false
def ltL : List UInt8 → List UInt8 → Bool
  | _, [] => false
  | [], _ :: _ => true
  | a :: x, b :: y => bif Nat.blt a.toNat b.toNat then true else bif Nat.beq a.toNat b.toNat then ltL x y else false
def arI (op : BinOp) (k : IntKind) (a b : Int) : Option AV :=
  match op with
  | .add => some (.int k (wr k (a + b)))
  | .sub => some (.int k (wr k (a - b)))
  | .mul => some (.int k (wr k (a * b)))
  | .quo => bif eqI b 0 then none else some (.int k (wr k (a.tdiv b)))
  | .rem => bif eqI b 0 then none else some (.int k (a.tmod b))
  | .and => some (.int k (Go.bits .and k a b))
  | .or => some (.int k (Go.bits .or k a b))
  | .xor => some (.int k (Go.bits .xor k a b))
  | .andNot => some (.int k (Go.bits .andNot k a b))
  | .eql => some (.bool (eqI a b))
  | .neq => some (.bool (!eqI a b))
  | .lss => some (.bool (ltI a b))
  | .leq => some (.bool (leI a b))
  | .gtr => some (.bool (ltI b a))
  | .geq => some (.bool (leI b a))
  | _ => none
def shI (op : BinOp) (k : IntKind) (a b : Int) : Option AV :=
  bif ltI b 0 then none else
  match op with
  | .shl => some (.int k (wr k (a * 2 ^ (min b.toNat k.bits))))
  | .shr => some (.int k (a.fdiv (2 ^ (min b.toNat k.bits))))
  | _ => none
def arS (op : BinOp) (a b : List UInt8) : Option AV :=
  match op with
  | .add => bif Nat.ble (a.length + b.length) 9223372036854775807 then some (.str (a ++ b)) else none
  | .eql => some (.bool (beqL a b))
  | .neq => some (.bool (!beqL a b))
  | .lss => some (.bool (ltL a b))
  | .leq => some (.bool (!ltL b a))
  | .gtr => some (.bool (ltL b a))
  | .geq => some (.bool (!ltL a b))
  | _ => none
/-- The kinds of types whose values are compared by '==' alone. -/
inductive Cls where
  | b | p | s | m | f
def eqC : Cls → AV → AV → Option Bool
  | .b, .bool a, .bool b => some (a == b)
  | .p, .ptr none, .ptr none => some true
  | .p, .ptr none, .ptr (some _) => some false
  | .p, .ptr (some _), .ptr none => some false
  | .p, .ptr (some (i, a)), .ptr (some (j, b)) => bif Nat.beq i j then some (Nat.beq a b) else none
  | .s, .slN, .slN => some true
  | .s, .slN, .sl _ _ _ _ _ => some false
  | .s, .sl _ _ _ _ _, .slN => some false
  | .m, .map none, .map none => some true
  | .m, .map none, .map (some _) => some false
  | .m, .map (some _), .map none => some false
  | .f, .nilFunc, .nilFunc => some true
  | .f, .nilFunc, .func _ _ _ => some false
  | .f, .func _ _ _, .nilFunc => some false
  | _, _, _ => none
/-- The kinds of a struct's cells that are compared. -/
inductive FK where
  | b | i | s
def eqF : FK → AV → AV → Option Bool
  | .b, .bool a, .bool b => some (a == b)
  | .i, .int j a, .int k b => bif eqK j k then some (eqI a b) else none
  | .s, .str a, .str b => some (beqL a b)
  | _, _, _ => none
def eqAs : List FK → List AV → List AV → Option Bool
  | [], [], [] => some true
  | k :: r, a :: x, b :: y => match eqF k a b, eqAs r x y with
    | some p, some q => some (p && q)
    | _, _ => none
  | _, _, _ => none
def asEq (op : BinOp) (o : Option Bool) : M AV :=
  match op, o with
  | .eql, some b => ret (.bool b)
  | .neq, some b => ret (.bool (!b))
  | _, _ => fail
/-- A binary operation on numbers or strings. -/
def bi (op : BinOp) (x y : AV) : M AV :=
  match x, y with
  | .int j a, .int k b => match op with
    | .shl => ofO (shI .shl j a b)
    | .shr => ofO (shI .shr j a b)
    | op => ofO (bif eqK j k then arI op j a b else none)
  | .str a, .str b => ofO (arS op a b)
  | _, _ => fail
/-- '==' and '!=' of other scalars. -/
def be (c : Cls) (op : BinOp) (x y : AV) : M AV := asEq op (eqC c x y)
/-- '==' and '!=' of structs of scalars. -/
def bis (ks : List FK) (op : BinOp) (x y : AV) : M AV :=
  match x, y with
  | .agg a, .agg b => asEq op (eqAs ks a b)
  | _, _ => fail
def un (op : UnOp) (x : AV) : M AV :=
  match op, x with
  | .neg, .int k n => ret (.int k (wr k (0 - n)))
  | .xor, .int k n => ret (.int k (Go.bits .xor k (if k.signed then -1 else k.max) n))
  | .not, .bool b => ret (.bool !b)
  | _, _ => fail
def pk (c a b : AV) : M AV :=
  match c with
  | .bool p => ret (bif p then a else b)
  | _ => fail
/-- A condition. -/
def cnd {α : Type} (c : AV) (m n : M α) : M α :=
  match c with
  | .bool p => bif p then m else n
  | _ => fail
/-- A guarded operation: 'want' is what the guard's value is to be. -/
def gd (g : AV) (want : Bool) (m : M AV) : M AV :=
  match g with
  | .bool p => bif (bif want then p else !p) then m else ret (.tuple [])
  | .tuple _ => ret (.tuple [])
  | _ => fail
/-- A tuple's component. -/
def ex (x : AV) (i : Nat) : M AV :=
  match x with
  | .tuple vs => ofO vs[i]?
  | _ => fail
def ci (k : IntKind) (x : AV) : M AV :=
  match x with
  | .int _ n => ret (.int k (wr k n))
  | _ => fail
/-- A string. -/
def sid (x : AV) : M AV :=
  match x with
  | .str s => ret (.str s)
  | _ => fail
/-- A rune's bytes. -/
def runeOf : Int → Nat
  | .ofNat m => bif Nat.blt m 0xD800 || (Nat.ble 0xE000 m && Nat.ble m 0x10FFFF) then m else 0xFFFD
  | .negSucc _ => 0xFFFD
def encN (c : Nat) : List UInt8 :=
  bif Nat.blt c 0x80 then [UInt8.ofNat c]
  else bif Nat.blt c 0x800 then [UInt8.ofNat (0xC0 + c / 64), UInt8.ofNat (0x80 + c % 64)]
  else bif Nat.blt c 0x10000 then [UInt8.ofNat (0xE0 + c / 4096), UInt8.ofNat (0x80 + c / 64 % 64), UInt8.ofNat (0x80 + c % 64)]
  else [UInt8.ofNat (0xF0 + c / 262144), UInt8.ofNat (0x80 + c / 4096 % 64), UInt8.ofNat (0x80 + c / 64 % 64), UInt8.ofNat (0x80 + c % 64)]
def encU (r : Int) : List UInt8 := encN (runeOf r)
def i2s (x : AV) : M AV :=
  match x with
  | .int _ n => ret (.str (encU n))
  | _ => fail
/-- A byte of a string. -/
def ixs (x i : AV) : M AV :=
  match x, i with
  | .str s, .int _ (.ofNat n) => match s[n]? with
    | some b => ret (.int .u8 b.toNat)
    | none => fail
  | _, _ => fail
/-- An element of one cell of an array. -/
def ixa (len : Nat) (x i : AV) : M AV :=
  match x, i with
  | .agg cs, .int _ (.ofNat n) => bif Nat.beq cs.length len then ofO cs[n]? else fail
  | _, _ => fail
def natOf (x : AV) : Option Nat :=
  match x with
  | .int _ (.ofNat n) => some n
  | _ => none
/-- The bounds of a cut. -/
def lohi (len top : Nat) (lo hi : Option AV) : Option (Nat × Nat) :=
  match (match hi with | some h => natOf h | none => some len), (match lo with | some l => natOf l | none => some 0) with
  | some h, some l => bif Nat.ble h top then (bif Nat.ble l h then some (l, h) else none) else none
  | _, _ => none
def ss (x : AV) (lo hi : Option AV) : M AV :=
  match x with
  | .str s => match lohi s.length s.length lo hi with
    | some (l, h) => ret (.str ((s.drop l).take (h - l)))
    | none => fail
  | _ => fail
/-- A cut of a slice, its elements of z cells. -/
def sls (z : Nat) (x : AV) (lo hi : Option AV) : M AV :=
  match x with
  | .slN => match lohi 0 0 lo hi with
    | some _ => ret .slN
    | none => fail
  | .sl i o len kc z' => match lohi len kc lo hi with
    | some (l, h) => bif Nat.beq z z' then ret (.sl i (o + l * z) (h - l) (kc - l) z) else fail
    | none => fail
  | _ => fail
/-- The address of a slice's element. -/
def ixp (z : Nat) (x i : AV) : M AV :=
  match x, i with
  | .sl j o len _ _, .int _ (.ofNat n) => bif Nat.blt n len then ret (.ptr (some (j, o + n * z))) else fail
  | _, _ => fail
/-- The address of an array's element. -/
def ixpa (z len : Nat) (x i : AV) : M AV :=
  match x, i with
  | .ptr (some (j, o)), .int _ (.ofNat n) => bif Nat.blt n len then ret (.ptr (some (j, o + n * z))) else fail
  | _, _ => fail
def fa (x : AV) (o : Nat) : M AV :=
  match x with
  | .ptr (some (i, p)) => ret (.ptr (some (i, p + o)))
  | _ => fail
def fi (x : AV) (o : Nat) : M AV :=
  match x with
  | .agg cs => ofO cs[o]?
  | _ => fail
def fia (x : AV) (o z : Nat) : M AV :=
  match x with
  | .agg cs => bif Nat.ble (o + z) cs.length then ret (.agg ((cs.drop o).take z)) else fail
  | _ => fail
/-- What is no nil pointer, nil interface or nil function. -/
def nck (x : AV) : M AV :=
  match x with
  | .ptr (some p) => ret (.ptr (some p))
  | .func f a b => ret (.func f a b)
  | _ => fail
def cells : AV → List AV
  | .agg cs => cs
  | v => [v]
def oneCell : AV → Bool
  | .agg _ => false
  | .tuple _ => false
  | .bad => false
  | _ => true

/-! ### Memory -/
def getO (i : Nat) : M AObj := fun h n =>
  match h.get i with
  | some o => some (o, h, n)
  | none => none
def setO (i : Nat) (o : AObj) : M Unit := fun h n => some ((), h.set i o, n)
def newO (o : AObj) : M Nat := fun h n =>
  match h.get n with
  | none => some (n, h.set n o, n + 1)
  | some _ => none
/-- A row's cells, from a place on, as many as told. -/
def rd (i o z : Nat) : M (List AV) :=
  bd (getO i) fun ob => match ob with
    | .row cs _ _ => bif Nat.ble (o + z) cs.length then ret ((cs.drop o).take z) else fail
    | _ => fail
def ld (x : AV) : M AV :=
  match x with
  | .ptr (some (i, o)) => bd (getO i) fun ob => match ob with
    | .row cs _ _ => ofO cs[o]?
    | _ => fail
  | _ => fail
def lda (z : Nat) (x : AV) : M AV :=
  match x with
  | .ptr (some (i, o)) => bd (rd i o z) fun cs => ret (.agg cs)
  | _ => fail
/-- Cells laid over others from a place on. -/
def lay (cs : List AV) (o : Nat) (vs : List AV) : List AV := cs.take o ++ (vs ++ cs.drop (o + vs.length))
def wrO (i o : Nat) (vs : List AV) : M Unit :=
  bd (getO i) fun ob => match ob with
    | .row cs e rw => bif Rw.ok rw o then (bif Nat.ble (o + vs.length) cs.length then (bif vs.all oneCell then setO i (.row (lay cs o vs) e rw) else fail) else fail) else fail
    | _ => fail
def st (x v : AV) : M AV :=
  match x with
  | .ptr (some (i, o)) => bd (wrO i o [v]) fun _ => ret (.tuple [])
  | _ => fail
def sta (z : Nat) (x v : AV) : M AV :=
  match x, v with
  | .ptr (some (i, o)), .agg vs => bif Nat.beq vs.length z then bd (wrO i o vs) fun _ => ret (.tuple []) else fail
  | _, _ => fail
def newRowF (e : TypeId) (cs : List AV) (rw : Rw) : M Nat := bif cs.all oneCell then newO (.row cs e rw) else fail
def newRow (e : TypeId) (cs : List AV) : M Nat := newRowF e cs (.own 0)
/-- A new variable. -/
def bx (e : TypeId) (v : AV) : M AV := bd (newRow e (cells v)) fun i => ret (.ptr (some (i, 0)))
/-- Parts laid over zero cells. -/
def fillA (cs : List AV) : List (Nat × Nat × AV) → Option (List AV)
  | [] => some cs
  | (o, z, v) :: r => bif Nat.beq (cells v).length z then (bif Nat.ble (o + z) cs.length then (bif (cells v).all oneCell then fillA (lay cs o (cells v)) r else none) else none) else none
def bu (zs : List AV) (ps : List (Nat × Nat × AV)) : M AV := bd (ofO (fillA zs ps)) fun cs => ret (.agg cs)
def bsl (e : TypeId) (z len : Nat) (zs : List AV) (ps : List (Nat × Nat × AV)) : M AV :=
  bd (ofO (fillA zs ps)) fun cs => bd (newRow e cs) fun i => ret (.sl i 0 len len z)
def rep (z : List AV) : Nat → List AV
  | 0 => []
  | n + 1 => z ++ rep z n
/-- 'make' of a slice: elements of b bytes, their zero cells. -/
def ms (e : TypeId) (z b : Nat) (zs : List AV) (len cap : AV) : M AV :=
  match len, cap with
  | .int .i64 (.ofNat l), .int .i64 (.ofNat c) =>
    bif Nat.ble l c then (bif Nat.ble (b * c) 281474976710656 then (bif Nat.ble c 281474976710656 then
      bd (newRow e (rep zs c)) fun i => ret (.sl i 0 l c z) else fail) else fail) else fail
  | _, _ => fail
def bytesA (s : List UInt8) : List AV := s.map fun b => .int .u8 b.toNat
def byteOf? : AV → Option UInt8
  | .int .u8 (.ofNat n) => bif Nat.blt n 256 then some (UInt8.ofNat n) else none
  | _ => none
def bytesOf? : List AV → Option (List UInt8)
  | [] => some []
  | v :: r => match byteOf? v, bytesOf? r with
    | some b, some l => some (b :: l)
    | _, _ => none
/-- The cells that an append adds; how many elements. -/
def addedOf (z : Nat) (x : AV) : M (List AV × Nat) :=
  match x with
  | .slN => ret ([], 0)
  | .sl i o n _ _ => bif Nat.beq n 0 then ret ([], 0) else bd (rd i o (n * z)) fun cs => ret (cs, n)
  | .str s => bif Nat.beq z 1 then ret (bytesA s, s.length) else fail
  | _ => fail
/-- 'append': elements of type e, z cells, b bytes. -/
def app (e : TypeId) (z b : Nat) (s x : AV) : M AV :=
  bd (addedOf z x) fun a =>
    match s with
    | .slN =>
      bif Nat.beq a.2 0 then ret .slN else
      bif Nat.ble (a.2 * b) 140737488355328 && Nat.ble a.2 140737488355328 then bd (newRow e a.1) fun j => ret (.sl j 0 a.2 a.2 z) else fail
    | .sl i o len kc z' =>
      bif Nat.beq a.2 0 then ret (.sl i o len kc z') else
      bif Nat.beq z z' then
        bd (getO i) fun ob => match ob with
        | .row cs e' rw =>
          bif Nat.beq e e' && rw.mine then
            bif Nat.ble (len + a.2) kc then bd (wrO i (o + len * z) a.1) fun _ => ret (.sl i o (len + a.2) kc z)
            else bif (Nat.beq o 0 && Rw.ok rw (len * z)) && (Nat.ble ((len + a.2) * b) 140737488355328 && Nat.ble (len + a.2) 140737488355328) then
              (bif Nat.ble (o + len * z) cs.length then
                bd (setO i .gone) fun _ => bd (newRowF e ((cs.drop o).take (len * z) ++ a.1) rw) fun j => ret (.sl j 0 (len + a.2) (len + a.2) z) else fail)
            else fail
          else fail
        | _ => fail
      else fail
    | _ => fail
def lnS (x : AV) : M AV :=
  match x with
  | .str s => ret (.int .i64 s.length)
  | _ => fail
def lnL (x : AV) : M AV :=
  match x with
  | .slN => ret (.int .i64 0)
  | .sl _ _ n _ _ => ret (.int .i64 n)
  | _ => fail
def lnM (x : AV) : M AV :=
  match x with
  | .map none => ret (.int .i64 0)
  | .map (some i) => bd (getO i) fun ob => match ob with
    | .map es => ret (.int .i64 es.length)
    | _ => fail
  | _ => fail
def mx2 (x y : AV) : M AV :=
  match x, y with
  | .int j a, .int k b => bif eqK j k then ret (.int j (bif ltI a b then b else a)) else fail
  | _, _ => fail
def mn2 (x y : AV) : M AV :=
  match x, y with
  | .int j a, .int k b => bif eqK j k then ret (.int j (bif ltI b a then b else a)) else fail
  | _, _ => fail
def fold2 (f : AV → AV → M AV) : AV → List AV → M AV
  | x, [] => ret x
  | x, y :: r => bd (f x y) fun v => fold2 f v r
/-- A string's bytes as a slice. -/
def s2b (e : TypeId) (x : AV) : M AV :=
  match x with
  | .str s => bd (newRowF e (bytesA s) .bs) fun i => ret (.sl i 0 s.length s.length 1)
  | _ => fail
/-- A slice's bytes as a string. -/
def b2s (x : AV) : M AV :=
  match x with
  | .slN => ret (.str [])
  | .sl i o n _ _ => bif Nat.beq n 0 then ret (.str []) else bd (rd i o n) fun cs => bd (ofO (bytesOf? cs)) fun l => ret (.str l)
  | _ => fail

/-! ### Package unsafe, as strings.Builder has it -/
/-- A typed pointer as an unsafe one. -/
def p2u (x : AV) : M AV :=
  match x with
  | .ptr none => ret (.ptr none)
  | .ptr (some (i, o)) => bd (getO i) fun ob => match ob with
    | .row cs _ _ => bif Nat.blt o cs.length then ret (.ptr (some (i, o))) else fail
    | _ => fail
  | _ => fail
/-- An unsafe pointer as one to a variable of type e, of z cells. -/
def u2p (e z : Nat) (x : AV) : M AV :=
  match x with
  | .ptr none => ret (.ptr none)
  | .ptr (some (i, o)) => bd (getO i) fun ob => match ob with
    | .row cs e' rw => bif Nat.beq o 0 && (Nat.beq e e' && (Nat.ble z cs.length && rw.mine)) then ret (.ptr (some (i, o))) else fail
    | _ => fail
  | _ => fail
def usd (x : AV) : M AV :=
  match x with
  | .slN => ret (.ptr none)
  | .sl i o _ kc _ => bif Nat.beq kc 0 then fail else ret (.ptr (some (i, o)))
  | _ => fail
/-- The bytes of a row as a string; they are written no more. -/
def ust (e : Nat) (p n : AV) : M AV :=
  match p, n with
  | .ptr q, .int .i64 (.ofNat k) => bif Nat.beq k 0 then ret (.str []) else match q with
    | some (i, o) => bd (getO i) fun ob => match ob with
      | .row cs e' (.own f) => bif Nat.beq o 0 && (Nat.beq e e' && (Nat.ble k cs.length && Nat.ble k 9223372036854775807)) then
          bd (ofO (bytesOf? (cs.take k))) fun l => bd (setO i (.row cs e' (.own (bif Nat.ble f k then k else f)))) fun _ => ret (.str l) else fail
      | _ => fail
    | none => fail
  | _, _ => fail
/-- The capacity of a nil slice. -/
def cpN (x : AV) : M AV :=
  match x with
  | .slN => ret (.int .i64 0)
  | _ => fail
def lenA (x : AV) : Option Nat :=
  match x with
  | .slN => some 0
  | .sl _ _ n _ _ => some n
  | .str s => some s.length
  | _ => none
/-- 'copy', the elements of z cells. -/
def cpy (z : Nat) (x y : AV) : M AV :=
  match lenA y, x with
  | some _, .slN => ret (.int .i64 0)
  | some m, .sl i o n _ z' =>
    bif Nat.beq (Nat.min m n) 0 then ret (.int .i64 0) else
    bif Nat.beq z z' then
      match y with
      | .sl j p _ _ _ => bd (rd j p (Nat.min m n * z)) fun cs => bd (wrO i o cs) fun _ => ret (.int .i64 (Nat.min m n))
      | .str s => bif Nat.beq z 1 then bd (wrO i o ((bytesA s).take (Nat.min m n))) fun _ => ret (.int .i64 (Nat.min m n)) else fail
      | _ => fail
    else fail
  | _, _ => fail

/-! ### Iterators over strings -/
def utf8 (s : List UInt8) : Nat × Nat := 
  let at' (k : Nat) : Nat := ((s[k]?).map UInt8.toNat).getD 0
  let cont (k : Nat) : Bool := Nat.blt k s.length && Nat.beq (at' k / 64) 2
  let valid (c : Nat) : Bool := Nat.blt c 0xD800 || (Nat.ble 0xE000 c && Nat.ble c 0x10FFFF)
  let b0 := at' 0
  bif Nat.blt b0 0x80 then (b0, 1)
  else bif Nat.beq (b0 / 32) 6 && cont 1 then
    bif Nat.ble 0x80 ((b0 % 32) * 64 + at' 1 % 64) then ((b0 % 32) * 64 + at' 1 % 64, 2) else (0xFFFD, 1)
  else bif Nat.beq (b0 / 16) 14 && cont 1 && cont 2 then
    let c := (b0 % 16) * 4096 + (at' 1 % 64) * 64 + at' 2 % 64
    bif Nat.ble 0x800 c && valid c then (c, 3) else (0xFFFD, 1)
  else bif Nat.beq (b0 / 8) 30 && cont 1 && cont 2 && cont 3 then
    let c := (b0 % 8) * 262144 + (at' 1 % 64) * 4096 + (at' 2 % 64) * 64 + at' 3 % 64
    bif Nat.ble 0x10000 c && valid c then (c, 4) else (0xFFFD, 1)
  else (0xFFFD, 1)
def rgs (x : AV) : M AV :=
  match x with
  | .str s => bd (newO (.iter s 0)) fun i => ret (.ptr (some (i, 0)))
  | _ => fail
def nxs (x : AV) : M AV :=
  match x with
  | .ptr (some (i, 0)) => bd (getO i) fun ob => match ob with
    | .iter s pos => match s.drop pos with
      | [] => ret (.tuple [.bool false])
      | b :: r => bd (setO i (.iter s (pos + (utf8 (b :: r)).2))) fun _ => ret (.tuple [.bool true, .int .i64 pos, .int .i32 (utf8 (b :: r)).1])
    | _ => fail
  | _ => fail
/-! ### Loops over functions -/
/-- The number under which the table of function values keeps a loop's yield. -/
def yldId : Nat := 4294967295
/-- What a round sees of the variables around it. -/
def rTs : List Nat → List AV → Nat → AV
  | k :: r, v :: l, i => bif Nat.beq i k then v else rTs r l i
  | _, _, _ => .bad
def begR (i : Nat) : M Unit := bd (getO i) fun o => match o with
  | .loop fn nt lv ts ps a b 0 pd => setO i (.loop fn nt lv ts ps a b 1 pd)
  | _ => fail
def endR (i : Nat) (j : Option Code) : M Unit := bd (getO i) fun o => match o with
  | .loop fn nt lv ts ps a b _ _ => setO i (.loop fn nt lv ts ps a b (match j with | none => 0 | some _ => 2) j)
  | _ => fail
def endLp (i : Nat) : M (Option Code) := bd (getO i) fun o => match o with
  | .loop fn nt lv ts ps a b st pd => bif Nat.beq st 1 then fail else bd (setO i (.loop fn nt lv ts ps a b 3 pd)) fun _ => ret pd
  | _ => fail
def lpThere : Option Nat → M Unit
  | none => ret ()
  | some i => bd (getO i) fun o => match o with
    | .loop _ _ _ _ _ _ _ _ _ => ret ()
    | _ => fail
def exAt : List (Nat × M AV) → Nat → M AV
  | [], _ => fail
  | (i, m) :: r, j => bif Nat.beq j i then m else exAt r j
/-- Behind a loop over a function. -/
def rj (j : Option Code) (k kr : M AV) (ke : List (Nat × M AV)) : M AV :=
  match j with
  | none => k
  | some .ret => kr
  | some (.exit i) => exAt ke i
  | some _ => fail
/-- Are two values surely one? -/
def beq0 : AV → AV → Bool
  | .bool a, .bool b => a == b
  | .int j a, .int k b => eqK j k && eqI a b
  | .str a, .str b => beqL a b
  | .ptr none, .ptr none => true
  | .ptr (some (i, a)), .ptr (some (j, b)) => Nat.beq i j && Nat.beq a b
  | .slN, .slN => true
  | .sl i o l k z, .sl i' o' l' k' z' => Nat.beq i i' && (Nat.beq o o' && (Nat.beq l l' && (Nat.beq k k' && Nat.beq z z')))
  | .map none, .map none => true
  | .map (some i), .map (some j) => Nat.beq i j
  | .nilFunc, .nilFunc => true
  | .nilIface, .nilIface => true
  | _, _ => false
def beqAs : List AV → List AV → Bool
  | [], [] => true
  | a :: x, b :: y => beq0 a b && beqAs x y
  | _, _ => false
def beqA : AV → AV → Bool
  | .agg a, .agg b => beqAs a b
  | .tuple a, .tuple b => beqAs a b
  | .func f a b, .func g c d => Nat.beq f g && (beqAs a c && beqAs b d)
  | a, b => beq0 a b
/-- What was read is read again. -/
def rck {α : Type} (m : M AV) (v : AV) (k : M α) : M α := bd m fun u => bif beqA v u then k else fail
end Go.Dn

/- The denotation of the model's operations and code, over the words of DnA. -/
namespace Go.Dn
open M

abbrev Tmps := Nat → AV
def tset (t : Tmps) (d : Nat) (v : AV) : Tmps := fun i => bif Nat.beq i d then v else t i

/-- A constant of the code. -/
def cv0 : Value → AV
  | .bool b => .bool b
  | .int k n => .int k n
  | .string s => .str s.data.toList
  | .pointer none => .ptr none
  | .slice none 0 0 => .slN
  | .map none => .map none
  | .nilFunc => .nilFunc
  | .nilIface => .nilIface
  | _ => .bad
def cv : Value → AV
  | .agg cs => .agg (cs.toList.map cv0)
  | .tuple vs => .tuple (vs.toList.map cv0)
  | v => cv0 v
/-- An operand's value; of the globals those before 'G' are known. -/
def ev (G : Nat) (t : Tmps) : Operand → AV
  | .tmp i => t i
  | .const v => cv v
  | .global g => bif Nat.blt g G then .ptr (some (g, 0)) else .bad
  | .func f => .func f [] []
def evo (G : Nat) (t : Tmps) : Option Operand → Option AV
  | some x => some (ev G t x)
  | none => none

/-- What the code calls: 'call' the functions that it names, 'ap' function values; 'ord' the order of a region that draws. -/
structure Env where
  P : Program
  ng : Nat
  call : FuncId → List AV → M AV
  ap : FuncId → List AV → M AV
  ord : Nat → List Nat
  fid : Nat := 0
  rnd : Option Nat := none
def Env.at (E : Env) (i : Nat) : Env := ⟨E.P, E.ng, E.call, E.ap, E.ord, E.fid, some i⟩

def tyU (P : Program) (t : TypeId) : TypeDesc := (P.underlying t).getD .invalid
def tySz (P : Program) (t : TypeId) : Nat := ((P.info? t).map (·.size)).getD 0
def tyBytes (P : Program) (t : TypeId) : Nat := ((P.info? t).map (·.bytes)).getD 0
def tyZero (P : Program) (t : TypeId) : Option AV := ((P.info? t).bind (·.zero)).map cv
def tyAgg (P : Program) (t : TypeId) : Bool :=
  match tyU P t with
  | .struct _ => true
  | .array _ _ => true
  | _ => false
def known (P : Program) (t : TypeId) : Bool := (P.info? t).isSome && (P.underlying t).isSome
/-- What '==' of a struct type looks at, where its cells are scalars all. -/
def scalarT (P : Program) (t : TypeId) : Option FK :=
  match tyU P t with
  | .bool => some .b
  | .int _ => some .i
  | .string => some .s
  | _ => none
def eqFields (P : Program) : Nat → List Field → Option (List FK)
  | _, [] => some []
  | o, f :: r => match scalarT P f.type, eqFields P (o + 1) r with
    | some k, some l => bif f.name != "_" && Nat.beq f.offset o then some (k :: l) else none
    | _, _ => none
def eqOK (P : Program) (t : TypeId) : Option (List FK) :=
  match tyU P t with
  | .struct fs => bif P.stoodInHeld t then none else eqFields P 0 fs.toList
  | _ => none

def place (P : Program) (t : TypeId) (i : Nat) : Option (Nat × Nat) :=
  match tyU P t with
  | .struct fs => (fs[i]?).map fun f => (f.offset, tySz P f.type)
  | .array _ e => some (i * tySz P e, tySz P e)
  | _ => none
/-- Are the sizes of the fields' types known? -/
def placed (P : Program) (t : TypeId) : Bool :=
  match tyU P t with
  | .struct fs => fs.toList.all fun f => (P.info? f.type).isSome
  | .array _ e => (P.info? e).isSome
  | _ => false
def zfits (P : Program) (e : TypeId) (z : AV) : Bool := Nat.beq (cells z).length (tySz P e)
def partsA (f : Nat → Option (Nat × Nat)) (G : Nat) (t : Tmps) : List (Nat × Operand) → Option (List (Nat × Nat × AV))
  | [] => some []
  | (i, x) :: r => match f i, partsA f G t r with
    | some (o, z), some l => some ((o, z, ev G t x) :: l)
    | _, _ => none
/-- 'm' where the option holds. -/
def wh {α β : Type} (o : Option α) (f : α → M β) : M β :=
  match o with
  | some a => f a
  | none => fail

def dbin (P : Program) (op : BinOp) (ty : TypeId) (x y : AV) : M AV :=
  match tyU P ty with
  | .struct _ => wh (eqOK P ty) fun ks => bis ks op x y
  | .int _ => bi op x y
  | .string => bi op x y
  | .bool => be .b op x y
  | .pointer e => bif Nat.beq (tySz P e) 0 then fail else be .p op x y
  | .unsafePointer => be .p op x y
  | .slice _ => be .s op x y
  | .map _ _ => be .m op x y
  | .func _ _ _ => be .f op x y
  | _ => fail
def dconv (P : Program) (src dst : TypeId) (x : AV) : M AV :=
  match tyU P src with
  | .int _ => match tyU P dst with
    | .int k => ci k x
    | .string => i2s x
    | _ => fail
  | .string => match tyU P dst with
    | .string => sid x
    | .slice e => match tyU P e with
      | .int .u8 => s2b e x
      | _ => fail
    | _ => fail
  | .slice e => match tyU P dst with
    | .string => match tyU P e with
      | .int .u8 => b2s x
      | _ => fail
    | _ => fail
  | .pointer e => match tyU P dst with
    | .unsafePointer => bif Nat.beq (tySz P e) 0 then fail else p2u x
    | _ => fail
  | .unsafePointer => match tyU P dst with
    | .pointer e => bif Nat.beq (tySz P e) 0 then fail else u2p e (tySz P e) x
    | _ => fail
  | _ => fail
def dlen (P : Program) : List TypeId → List AV → M AV
  | [t], [x] => match tyU P t with
    | .string => lnS x
    | .slice _ => lnL x
    | .map _ _ => lnM x
    | _ => fail
  | _, _ => fail
def dapp (P : Program) : List TypeId → List AV → M AV
  | [s, u], [x, y] => match tyU P s with
    | .slice e => match tyU P u with
      | .slice _ => wh (tyZero P e) fun zv => bif zfits P e zv && !Nat.beq (tySz P e) 0 then app e (tySz P e) (tyBytes P e) x y else fail
      | .string => wh (tyZero P e) fun zv => bif zfits P e zv && !Nat.beq (tySz P e) 0 then app e (tySz P e) (tyBytes P e) x y else fail
      | _ => fail
    | _ => fail
  | _, _ => fail
def two (f : AV → AV → M AV) : List AV → M AV
  | [x, y] => f x y
  | _ => fail
def dcap (P : Program) : List TypeId → List AV → M AV
  | [t], [x] => match tyU P t with
    | .slice _ => cpN x
    | _ => fail
  | _, _ => fail
def dust (P : Program) : List TypeId → List AV → M AV
  | [t, _], [x, y] => match tyU P t with
    | .pointer e => match tyU P e with
      | .int .u8 => bif Nat.beq (tySz P e) 1 then ust e x y else fail
      | _ => fail
    | _ => fail
  | _, _ => fail
def dcopy (P : Program) : List TypeId → List AV → M AV
  | [t, _], [x, y] => match tyU P t with
    | .slice e => bif Nat.beq (tySz P e) 0 then fail else cpy (tySz P e) x y
    | _ => fail
  | _, _ => fail
def many (f : AV → AV → M AV) : List AV → M AV
  | x :: y :: r => fold2 f x (y :: r)
  | _ => fail
def one (f : AV → M AV) : List AV → M AV
  | [x] => f x
  | _ => fail
def dbuiltin (P : Program) (b : Builtin) (ts : List TypeId) (xs : List AV) : M AV :=
  match b with
  | .len => dlen P ts xs
  | .append => dapp P ts xs
  | .max => many mx2 xs
  | .min => many mn2 xs
  | .cap => dcap P ts xs
  | .copy => dcopy P ts xs
  | .unsafeSliceData => one usd xs
  | .unsafeString => dust P ts xs
  | _ => fail
/-- A function value is called. -/
def apv (ap : FuncId → List AV → M AV) (f : AV) (xs : List AV) : M AV :=
  match f with
  | .func g a b => bif Nat.beq g yldId then fail else ap g (a ++ (xs ++ b))
  | .yld i => ap yldId (.yld i :: xs)
  | _ => fail
def L0 (f : M AV) : List AV → M AV
  | [] => f
  | _ => fail
def L1 (f : AV → M AV) : List AV → M AV
  | [a0] => f a0
  | _ => fail
def L2 (f : AV → AV → M AV) : List AV → M AV
  | [a0, a1] => f a0 a1
  | _ => fail
def L3 (f : AV → AV → AV → M AV) : List AV → M AV
  | [a0, a1, a2] => f a0 a1 a2
  | _ => fail
def L4 (f : AV → AV → AV → AV → M AV) : List AV → M AV
  | [a0, a1, a2, a3] => f a0 a1 a2 a3
  | _ => fail
def L5 (f : AV → AV → AV → AV → AV → M AV) : List AV → M AV
  | [a0, a1, a2, a3, a4] => f a0 a1 a2 a3 a4
  | _ => fail
def L6 (f : AV → AV → AV → AV → AV → AV → M AV) : List AV → M AV
  | [a0, a1, a2, a3, a4, a5] => f a0 a1 a2 a3 a4 a5
  | _ => fail
def L7 (f : AV → AV → AV → AV → AV → AV → AV → M AV) : List AV → M AV
  | [a0, a1, a2, a3, a4, a5, a6] => f a0 a1 a2 a3 a4 a5 a6
  | _ => fail
def L8 (f : AV → AV → AV → AV → AV → AV → AV → AV → M AV) : List AV → M AV
  | [a0, a1, a2, a3, a4, a5, a6, a7] => f a0 a1 a2 a3 a4 a5 a6 a7
  | _ => fail
def L9 (f : AV → AV → AV → AV → AV → AV → AV → AV → AV → M AV) : List AV → M AV
  | [a0, a1, a2, a3, a4, a5, a6, a7, a8] => f a0 a1 a2 a3 a4 a5 a6 a7 a8
  | _ => fail
def L10 (f : AV → AV → AV → AV → AV → AV → AV → AV → AV → AV → M AV) : List AV → M AV
  | [a0, a1, a2, a3, a4, a5, a6, a7, a8, a9] => f a0 a1 a2 a3 a4 a5 a6 a7 a8 a9
  | _ => fail
def L11 (f : AV → AV → AV → AV → AV → AV → AV → AV → AV → AV → AV → M AV) : List AV → M AV
  | [a0, a1, a2, a3, a4, a5, a6, a7, a8, a9, a10] => f a0 a1 a2 a3 a4 a5 a6 a7 a8 a9 a10
  | _ => fail
def L12 (f : AV → AV → AV → AV → AV → AV → AV → AV → AV → AV → AV → AV → M AV) : List AV → M AV
  | [a0, a1, a2, a3, a4, a5, a6, a7, a8, a9, a10, a11] => f a0 a1 a2 a3 a4 a5 a6 a7 a8 a9 a10 a11
  | _ => fail

def dcallee (E : Env) (c : Call) (t : Tmps) : M AV :=
  match c.callee with
  | .builtin b => dbuiltin E.P b c.argTypes.toList (c.args.toList.map (ev E.ng t))
  | .value (.func f) => E.call f (c.args.toList.map (ev E.ng t))
  | .value x => apv E.ap (ev E.ng t x) (c.args.toList.map (ev E.ng t))
  | .invoke _ _ => fail

/-- An operation's value. -/
def dop (E : Env) (o : Op) (t : Tmps) : M AV :=
  match o with
  | .move x => ret (ev E.ng t x)
  | .assign x => ret (ev E.ng t x)
  | .pick c a b => pk (ev E.ng t c) (ev E.ng t a) (ev E.ng t b)
  | .alloc e => wh (tyZero E.P e) fun z => bx e z
  | .box e x => bx e (ev E.ng t x)
  | .build ty ps => bif placed E.P ty then wh (tyZero E.P ty) fun z => wh (partsA (place E.P ty) E.ng t ps.toList) fun l => bu (cells z) l else fail
  | .buildSlice ty n ps => match tyU E.P ty with
    | .slice e => wh (tyZero E.P e) fun z => bif zfits E.P e z && Nat.ble (n * tySz E.P e) 16777216 then wh (partsA (fun i => some (i * tySz E.P e, tySz E.P e)) E.ng t ps.toList) fun l => bsl e (tySz E.P e) n (rep (cells z) n) l else fail
    | _ => fail
  | .load ty a => bif known E.P ty then (bif tyAgg E.P ty then lda (tySz E.P ty) (ev E.ng t a) else ld (ev E.ng t a)) else fail
  | .store ty a x => bif known E.P ty then (bif tyAgg E.P ty then sta (tySz E.P ty) (ev E.ng t a) (ev E.ng t x) else bif Nat.beq (tySz E.P ty) 1 then st (ev E.ng t a) (ev E.ng t x) else fail) else fail
  | .nilCheck x => nck (ev E.ng t x)
  | .binOp op ty x y _ => dbin E.P op ty (ev E.ng t x) (ev E.ng t y)
  | .unOp op _ x => un op (ev E.ng t x)
  | .convert s d x => dconv E.P s d (ev E.ng t x)
  | .makeFunc fn first captured => match fn with
    | .func f => ret (.func f (first.toList.map (ev E.ng t)) (captured.toList.map (ev E.ng t)))
    | _ => fail
  | .makeSlice ty l c => match tyU E.P ty with
    | .slice e => wh (tyZero E.P e) fun z => bif zfits E.P e z then ms e (tySz E.P e) (tyBytes E.P e) (cells z) (ev E.ng t l) (ev E.ng t c) else fail
    | _ => fail
  | .slice ty x lo hi mx => match mx with
    | some _ => fail
    | none => match tyU E.P ty with
      | .string => ss (ev E.ng t x) (evo E.ng t lo) (evo E.ng t hi)
      | .slice e => bif known E.P e then sls (tySz E.P e) (ev E.ng t x) (evo E.ng t lo) (evo E.ng t hi) else fail
      | _ => fail
  | .fieldAddr ty x i => match tyU E.P ty with
    | .struct fs => wh fs[i]? fun f => bif Nat.beq (tySz E.P f.type) 0 then fail else fa (ev E.ng t x) f.offset
    | _ => fail
  | .field ty x i => match tyU E.P ty with
    | .struct fs => wh fs[i]? fun f => bif known E.P f.type then (bif tyAgg E.P f.type then fia (ev E.ng t x) f.offset (tySz E.P f.type) else fi (ev E.ng t x) f.offset) else fail
    | _ => fail
  | .indexAddr ty x i => match tyU E.P ty with
    | .slice e => bif known E.P e then ixp (tySz E.P e) (ev E.ng t x) (ev E.ng t i) else fail
    | .array n e => bif known E.P e then ixpa (tySz E.P e) n (ev E.ng t x) (ev E.ng t i) else fail
    | _ => fail
  | .index ty x i => match tyU E.P ty with
    | .string => ixs (ev E.ng t x) (ev E.ng t i)
    | .array n e => bif Nat.beq (tySz E.P e) 1 && known E.P e then (bif tyAgg E.P e then fail else ixa n (ev E.ng t x) (ev E.ng t i)) else fail
    | _ => fail
  | .range ty x => match tyU E.P ty with
    | .string => rgs (ev E.ng t x)
    | _ => fail
  | .next it true => nxs (ev E.ng t it)
  | .extract x i => ex (ev E.ng t x) i
  | .call c => dcallee E c t
  | _ => fail

def dput (nt : Nat) (t : Tmps) (d : Option Tmp) (v : AV) (K : Tmps → M AV) : M AV :=
  match d with
  | none => K t
  | some d => bif Nat.blt d nt then K (tset t d v) else fail
/-- Is an operation one whose value is at hand? -/
def quick : Op → Option Operand
  | .move x => some x
  | .assign x => some x
  | _ => none
def dstAt (ops : List Oper) (j : Nat) : Option Tmp := (ops[j]?).bind (·.dst)
/-- Operations, one behind the other. -/
def dops (E : Env) (nt : Nat) (all : List Oper) : List Oper → Tmps → (Tmps → M AV) → M AV
  | [], t, K => K t
  | o :: r, t, K =>
    match o.guard with
    | none => match quick o.op with
      | some x => dput nt t o.dst (ev E.ng t x) fun t' => dops E nt all r t' K
      | none => bd (dop E o.op t) fun v => dput nt t o.dst v fun t' => dops E nt all r t' K
    | some (j, want) => match dstAt all j with
      | some d => bif Nat.blt d nt then bd (gd (t d) want (dop E o.op t)) fun v => dput nt t o.dst v fun t' => dops E nt all r t' K else fail
      | none => fail

/-! ### Regions whose order is drawn -/
/-- 0: what looks at no memory; 1: what reads; 2: the rest. -/
def opKind (P : Program) : Op → Nat
  | .move _ => 0
  | .assign _ => 0
  | .pick _ _ _ => 0
  | .build _ _ => 0
  | .binOp _ _ _ _ _ => 0
  | .unOp _ _ _ => 0
  | .nilCheck _ => 0
  | .makeFunc _ _ _ => 0
  | .slice _ _ _ _ _ => 0
  | .fieldAddr _ _ _ => 0
  | .field _ _ _ => 0
  | .indexAddr _ _ _ => 0
  | .index _ _ _ => 0
  | .extract _ _ => 0
  | .load _ _ => 1
  | .convert s d _ => match tyU P s with
    | .int _ => 0
    | .string => match tyU P d with
      | .string => 0
      | _ => 2
    | .slice _ => 1
    | _ => 2
  | .call c => match c.callee with
    | .builtin .max => 0
    | .builtin .min => 0
    | .builtin .unsafeSliceData => 0
    | .builtin .cap => 0
    | .builtin .len => match c.argTypes.toList with
      | [t] => match tyU P t with
        | .string => 0
        | .slice _ => 0
        | _ => 1
      | _ => 2
    | _ => 2
  | _ => 2
/-- An operation behind its guard. -/
def gop (E : Env) (nt : Nat) (all : List Oper) (o : Oper) (t : Tmps) : M AV :=
  match o.guard with
  | none => match quick o.op with
    | some x => ret (ev E.ng t x)
    | none => dop E o.op t
  | some (j, want) => match dstAt all j with
    | some d => bif Nat.blt d nt then gd (t d) want (dop E o.op t) else fail
    | none => fail
def maskOf (ms : List Nat) (es : List Edge) : Nat :=
  match es with
  | [] => 0
  | e :: r => bif Region.binds .any e then (2 ^ e.on ||| ms.getD e.on 0) ||| maskOf ms r else maskOf ms r
def masksL : List Oper → List Nat → List Nat
  | [], ms => ms
  | o :: r, ms => masksL r (ms ++ [maskOf ms o.after.toList])
def bef (ms : List Nat) (a b : Nat) : Bool := Nat.testBit (ms.getD b 0) a
def tmpsOf : List Operand → List Nat
  | [] => []
  | .tmp i :: r => i :: tmpsOf r
  | _ :: r => tmpsOf r
def sees (all : List Oper) (o : Oper) : List Nat :=
  match o.guard with
  | none => tmpsOf o.op.operands.toList
  | some (j, _) => match dstAt all j with
    | some d => d :: tmpsOf o.op.operands.toList
    | none => tmpsOf o.op.operands.toList
def hasN (l : List Nat) (i : Nat) : Bool := l.any (Nat.beq i)
def apartO (all : List Oper) (x y : Oper) : Bool :=
  (match x.dst with
   | some d => !hasN (sees all y) d && (match y.dst with | some e => !Nat.beq d e | none => true)
   | none => true) &&
  (match y.dst with
   | some d => !hasN (sees all x) d
   | none => true)
/-- May b, where it isn't bound to come behind a, come ahead of it? -/
def swapOK (P : Program) (all : List Oper) (ms : List Nat) (a b : Nat) : Bool :=
  bef ms a b || (match all[a]?, all[b]? with
    | some x, some y => apartO all x y && (Nat.blt (opKind P x.op) 2 || Nat.beq (opKind P y.op) 0)
    | _, _ => false)
def pairsOK (f : Nat → Nat → Bool) : List Nat → Bool
  | [] => true
  | a :: r => r.all (f a) && pairsOK f r
def edgesOK : Nat → List Oper → Bool
  | _, [] => true
  | i, o :: r => (o.after.toList.all fun e => bif Region.binds .any e then Nat.blt e.on i else true) && edgesOK (i + 1) r
def drawOK (P : Program) (all : List Oper) (ord : List Nat) : Bool :=
  P.follows .mixedOrders && edgesOK 0 all && (ord.isPerm (List.range all.length) && pairsOK (swapOK P all (masksL all [])) ord)
/-- What was read before an effect, and isn't bound to be, is read again behind it. -/
def again {α : Type} (ms : List Nat) (i : Nat) : List (Nat × M AV × AV) → M α → M α
  | [], k => k
  | (r, m, v) :: l, k => bif bef ms r i then again ms i l k else rck m v (again ms i l k)
def dseq (E : Env) (nt : Nat) (all : List Oper) (ms : List Nat) : List Nat → Tmps → List (Nat × M AV × AV) → (Tmps → M AV) → M AV
  | [], t, _, K => K t
  | i :: r, t, pd, K =>
    match all[i]? with
    | none => fail
    | some o => bd (gop E nt all o t) fun v =>
      match opKind E.P o.op with
      | 0 => dput nt t o.dst v fun t' => dseq E nt all ms r t' pd K
      | 1 => dput nt t o.dst v fun t' => dseq E nt all ms r t' ((i, gop E nt all o t, v) :: pd) K
      | _ => again ms i pd (dput nt t o.dst v fun t' => dseq E nt all ms r t' pd K)
def ddraw (E : Env) (nt : Nat) (all : List Oper) (ord : List Nat) (t : Tmps) (K : Tmps → M AV) : M AV :=
  bif drawOK E.P all ord then dseq E nt all (masksL all []) ord t [] K else fail

inductive Ex where
  | normal
  | ret
  | exit (id : Nat)

def fuel : Nat := 4611686018427387904
def loopM (f : Tmps → (Tmps → M AV) → M AV) : Nat → Tmps → M AV
  | 0, _ => fail
  | j + 1, t => f t (loopM f j)
/-- Continuations. -/
abbrev KT := Ex → Tmps → M AV
def kJ (F : Tmps → M AV) (K : KT) : KT
  | .normal, t => F t
  | .ret, t => K .ret t
  | .exit i, t => K (.exit i) t
def kB (id : Nat) (K : KT) : KT
  | .normal, t => K .normal t
  | .ret, t => K .ret t
  | .exit i, t => bif Nat.beq i id then K .normal t else K (.exit i) t

/-- What code reads, what it writes, where it goes. -/
def allSees (all : List Oper) : List Oper → List Nat
  | [] => []
  | o :: r => sees all o ++ allSees all r
def dstsOf : List Oper → List Nat
  | [] => []
  | o :: r => match o.dst with
    | some d => d :: dstsOf r
    | none => dstsOf r
def codeReads : Code → List Nat
  | .region _ ops _ => allSees ops.toList ops.toList
  | .seq a b => codeReads a ++ codeReads b
  | .cond c a b => tmpsOf [c] ++ (codeReads a ++ codeReads b)
  | .block _ c => codeReads c
  | .scope c => codeReads c
  | .loop c => codeReads c
  | .rangeFunc f _ a b => tmpsOf [f] ++ (codeReads a ++ codeReads b)
  | _ => []
def codeWrites : Code → List Nat
  | .region _ ops _ => dstsOf ops.toList
  | .seq a b => codeWrites a ++ codeWrites b
  | .cond _ a b => codeWrites a ++ codeWrites b
  | .block _ c => codeWrites c
  | .scope c => codeWrites c
  | .loop c => codeWrites c
  | .rangeFunc _ ps a b => ps.toList ++ (codeWrites a ++ codeWrites b)
  | _ => []
def without (ws : List Nat) : List Nat → List Nat
  | [] => []
  | a :: r => bif hasN ws a then without ws r else a :: without (a :: ws) r
def lvOf (ps : List Nat) (a b : Code) : List Nat := without (ps ++ (codeWrites a ++ codeWrites b)) (codeReads a ++ codeReads b)
def codeExits : Code → List Nat
  | .seq a b => codeExits a ++ codeExits b
  | .cond _ a b => codeExits a ++ codeExits b
  | .block id c => without [id] (codeExits c)
  | .scope c => codeExits c
  | .loop c => codeExits c
  | .rangeFunc _ _ a b => codeExits a ++ codeExits b
  | .exit id => [id]
  | _ => []
def codeRets : Code → Bool
  | .seq a b => codeRets a || codeRets b
  | .cond _ a b => codeRets a || codeRets b
  | .block _ c => codeRets c
  | .scope c => codeRets c
  | .loop c => codeRets c
  | .rangeFunc _ _ a b => codeRets a || codeRets b
  | .ret => true
  | _ => false
def kOpt (b : Bool) (m : M AV) : M AV := bif b then m else fail

def dcode (E : Env) (nt : Nat) : Code → Tmps → KT → M AV
  | .skip, t, K => K .normal t
  | .label _, t, K => K .normal t
  | .region id ops draw, t, K =>
    bif draw then ddraw E nt ops.toList (E.ord id) t (K .normal) else dops E nt ops.toList ops.toList t (K .normal)
  | .seq a b, t, K => dcode E nt a t (kJ (fun t' => dcode E nt b t' K) K)
  | .cond c a b, t, K => cnd (ev E.ng t c) (dcode E nt a t K) (dcode E nt b t K)
  | .block id c, t, K => dcode E nt c t (kB id K)
  | .scope c, t, K => dcode E nt c t K
  | .loop c, t, K => loopM (fun t L => dcode E nt c t (kJ L K)) fuel t
  | .exit id, t, K => K (.exit id) t
  | .ret, t, K => K .ret t
  | .rangeFunc f ps a b, t, K =>
    bd (lpThere E.rnd) fun _ =>
    bd (newO (.loop E.fid nt (lvOf ps.toList a b) ((lvOf ps.toList a b).map t) ps.toList a b 0 none)) fun i =>
    bd (apv E.ap (ev E.ng t f) [.yld i]) fun _ =>
    bd (endLp i) fun j => rj j (K .normal t) (kOpt (codeRets b) (K .ret t)) ((without [] (codeExits b)).map fun id => (id, K (.exit id) t))
  | _, _, _ => fail
/-! ### A round of a loop over a function -/
def psSet : List Nat → List AV → Tmps → Tmps
  | p :: ps, x :: xs, t => psSet ps xs (tset t p x)
  | _, _, t => t
def kRnd (i : Nat) : KT
  | .normal, _ => bd (endR i none) fun _ => ret (.bool true)
  | .ret, _ => bd (endR i (some .ret)) fun _ => ret (.bool false)
  | .exit id, _ => bd (endR i (some (.exit id))) fun _ => ret (.bool false)
def kAsg (E : Env) (nt i : Nat) (b : Code) : KT
  | .normal, t => bd (begR i) fun _ => dcode E nt b t (kRnd i)
  | _, _ => fail
def dround (Es : Nat → Option Env) (i : Nat) (xs : List AV) : M AV :=
  bd (getO i) fun o => match o with
  | .loop fn nt lv ts ps a b _ _ => bif Nat.beq ps.length xs.length && ps.all (fun p => Nat.blt p nt) then
      (match Es fn with
      | some E => dcode (E.at i) nt a (psSet ps xs (rTs lv ts)) (kAsg (E.at i) nt i b)
      | none => fail)
    else fail
  | _ => fail
/-- The table's entry for yields. -/
def yldOf (Es : Nat → Option Env) : List AV → M AV
  | .yld i :: xs => dround Es i xs
  | _ => fail

def dres (P : Program) (t : Tmps) : List ResultVar → (List AV → M AV) → M AV
  | [], K => K []
  | .tmp i :: r, K => dres P t r fun l => K (t i :: l)
  | .cell a ty :: r, K => bif known P ty then bd (bif tyAgg P ty then lda (tySz P ty) (t a) else ld (t a)) (fun v => dres P t r fun l => K (v :: l)) else fail
def single : List AV → AV
  | [v] => v
  | l => .tuple l
def dresults (P : Program) (t : Tmps) (rs : List ResultVar) : M AV := dres P t rs fun l => ret (single l)
def argT (args : List AV) : Tmps := fun i => args.getD i (.tuple [])
def dK (P : Program) (rs : List ResultVar) : KT
  | .exit _, _ => fail
  | .normal, t => dresults P t rs
  | .ret, t => dresults P t rs
/-- A function. -/
def dfn (E : Env) (fn : Func) (args : List AV) : M AV :=
  match fn.body with
  | some c => bif Nat.ble args.length fn.ntmps then dcode E fn.ntmps c (argT args) (dK E.P fn.results.toList) else fail
  | none => fail

/-! ### For the proofs that a printed function is its code's denotation -/
theorem loop_eq {f : Tmps → (Tmps → M AV) → M AV} {g : Nat → Tmps → M AV} (h0 : ∀ t, g 0 t = fail) (h : ∀ n t, f t (g n) = g (n + 1) t) : ∀ n t, loopM f n t = g n t
  | 0, t => (h0 t).symm
  | n + 1, t => by
    have e : loopM f n = g n := funext fun t => loop_eq h0 h n t
    show f t (loopM f n) = _
    rw [e]
    exact h n t
theorem seq_eq {E : Env} {nt : Nat} {a b : Code} {t : Tmps} {K : KT} {S : Tmps → M AV} {r : M AV} (hb : ∀ t, dcode E nt b t K = S t) (ha : dcode E nt a t (kJ S K) = r) :
    dcode E nt (.seq a b) t K = r := by
  have e : (fun t' => dcode E nt b t' K) = S := funext hb
  show dcode E nt a t (kJ (fun t' => dcode E nt b t' K) K) = r
  rw [e]
  exact ha
theorem cond_eq {E : Env} {nt : Nat} {c : Operand} {a b : Code} {t : Tmps} {K : KT} {r s : M AV} (ha : dcode E nt a t K = r) (hb : dcode E nt b t K = s) :
    dcode E nt (.cond c a b) t K = cnd (ev E.ng t c) r s := by
  show cnd (ev E.ng t c) (dcode E nt a t K) (dcode E nt b t K) = _
  rw [ha, hb]
theorem dloop_eq {E : Env} {nt : Nat} {c : Code} {t : Tmps} {K : KT} {g : Nat → Tmps → M AV} (h0 : ∀ t, g 0 t = fail) (h : ∀ n t, dcode E nt c t (kJ (g n) K) = g (n + 1) t) :
    dcode E nt (.loop c) t K = g fuel t := loop_eq h0 h fuel t
theorem dfn_eq {E : Env} {fn : Func} {xs : List AV} {c : Code} {nt : Nat} {K : KT} {r : M AV} (hc : fn.body = some c) (hn : fn.ntmps = nt) (hl : Nat.ble xs.length nt = true) (hK : dK E.P fn.results.toList = K)
    (h : dcode E nt c (argT xs) K = r) : dfn E fn xs = r := by
  unfold dfn
  rw [hc]
  show (bif Nat.ble xs.length fn.ntmps then dcode E fn.ntmps c (argT xs) (dK E.P fn.results.toList) else fail) = r
  rw [hn, hl, hK]
  exact h
def kA (i : Nat) (S : Tmps → M AV) : KT
  | .normal, t => bd (begR i) fun _ => S t
  | _, _ => fail
theorem asg_eq {E : Env} {nt i : Nat} {a b : Code} {t : Tmps} {S : Tmps → M AV} {r : M AV} (hb : ∀ t, dcode E nt b t (kRnd i) = S t) (ha : dcode E nt a t (kA i S) = r) : dcode E nt a t (kAsg E nt i b) = r := by
  have e : kAsg E nt i b = kA i S := by
    funext x t
    cases x with
    | normal => show bd (begR i) (fun _ => dcode E nt b t (kRnd i)) = bd (begR i) fun _ => S t; rw [hb]
    | _ => rfl
  rw [e]; exact ha
/-- Paths into code. -/
def c1 : Code → Code
  | .rangeFunc _ _ a _ => a
  | .seq a _ => a
  | .cond _ a _ => a
  | .block _ c => c
  | .scope c => c
  | .loop c => c
  | c => c
def c2 : Code → Code
  | .rangeFunc _ _ _ b => b
  | .seq _ b => b
  | .cond _ _ b => b
  | c => c
def bodyOf (f : Func) : Code := f.body.getD .skip
end Go.Dn

/- Soundness, 1: how an abstract state stands to a world of the model. -/
namespace Go.Dn
open M Go.RowKit

/-! ### The tree -/
namespace Tr
variable {α : Type}
theorem get_nil (i : Nat) : (nil : Tr α).get i = none := rfl
theorem get_setF : ∀ (f i : Nat) (t : Tr α) (a : α) (j : Nat), i < f → (setF f t i a).get j = if j = i then some a else t.get j := by
  intro f
  induction f with
  | zero => intro i t a j h; omega
  | succ f ih =>
    intro i t a j h
    have hb : ∀ x y : Nat, Nat.beq x y = decide (x = y) := fun x y => by
      cases e : Nat.beq x y with
      | true => rw [Nat.eq_of_beq_eq_true e]; simp
      | false => have := Nat.ne_of_beq_eq_false e; simp [this]
    cases t with
    | nil =>
      unfold setF
      simp only [hb]
      by_cases h0 : i = 0
      · subst h0
        simp only [decide_true, cond_true, get, hb]
        by_cases hj : j = 0 <;> simp [hj]
      · simp only [h0, decide_false, cond_false]
        by_cases h1 : i % 2 = 1
        · simp only [h1, decide_true, cond_true, get, hb]
          by_cases hj : j = 0
          · subst hj; simp; omega
          · simp only [hj, decide_false, cond_false]
            by_cases hj1 : j % 2 = 1
            · simp only [hj1, decide_true, cond_true]
              rw [ih _ _ _ _ (by omega)]
              by_cases e : j = i
              · subst e; simp
              · rw [if_neg (by omega), if_neg e]; rfl
            · simp only [hj1, decide_false, cond_false]
              rw [if_neg (by omega)]
        · simp only [h1, decide_false, cond_false, get, hb]
          by_cases hj : j = 0
          · subst hj; simp; omega
          · simp only [hj, decide_false, cond_false]
            by_cases hj1 : j % 2 = 1
            · simp only [hj1, decide_true, cond_true]
              rw [if_neg (by omega)]
            · simp only [hj1, decide_false, cond_false]
              rw [ih _ _ _ _ (by omega)]
              by_cases e : j = i
              · subst e; simp
              · rw [if_neg (by omega), if_neg e]; rfl
    | node l o r =>
      unfold setF
      simp only [hb]
      by_cases h0 : i = 0
      · subst h0
        simp only [decide_true, cond_true, get, hb]
        by_cases hj : j = 0 <;> simp [hj]
      · simp only [h0, decide_false, cond_false]
        by_cases h1 : i % 2 = 1
        · simp only [h1, decide_true, cond_true, get, hb]
          by_cases hj : j = 0
          · subst hj; simp; omega
          · simp only [hj, decide_false, cond_false]
            by_cases hj1 : j % 2 = 1
            · simp only [hj1, decide_true, cond_true]
              rw [ih _ _ _ _ (by omega)]
              by_cases e : j = i
              · subst e; simp
              · rw [if_neg (by omega), if_neg e]
            · simp only [hj1, decide_false, cond_false]
              rw [if_neg (by omega)]
        · simp only [h1, decide_false, cond_false, get, hb]
          by_cases hj : j = 0
          · subst hj; simp; omega
          · simp only [hj, decide_false, cond_false]
            by_cases hj1 : j % 2 = 1
            · simp only [hj1, decide_true, cond_true]
              rw [if_neg (by omega)]
            · simp only [hj1, decide_false, cond_false]
              rw [ih _ _ _ _ (by omega)]
              by_cases e : j = i
              · subst e; simp
              · rw [if_neg (by omega), if_neg e]
theorem get_set (t : Tr α) (i : Nat) (a : α) (j : Nat) : (t.set i a).get j = if j = i then some a else t.get j := get_setF _ _ _ _ _ (Nat.lt_succ_self i)
end Tr

/-! ### Where an abstract object lies -/
structure G where
  b : Nat
  base : Nat
  size : Nat
  rw : Bool
abbrev Rho := Nat → Option G

mutual
/-- An abstract value stands for a value. -/
inductive VRel (ρ : Rho) : AV → Value → Prop
  | bad (v : Value) : VRel ρ .bad v
  | bool (b : Bool) : VRel ρ (.bool b) (.bool b)
  | int (k : IntKind) (n : Int) : VRel ρ (.int k n) (.int k n)
  | str (s : ByteArray) : VRel ρ (.str s.data.toList) (.string s)
  | ptrN : VRel ρ (.ptr none) (.pointer none)
  | ptr (i o : Nat) (g : G) : ρ i = some g → VRel ρ (.ptr (some (i, o))) (.pointer (some ⟨g.b, g.base + o, none⟩))
  | slN : VRel ρ .slN (.slice none 0 0)
  | sl (i o len kc z cap : Nat) (g : G) : ρ i = some g → len ≤ kc → kc ≤ cap → (g.rw = true → g.base + o + cap * z ≤ g.size) →
      VRel ρ (.sl i o len kc z) (.slice (some ⟨g.b, g.base + o, none⟩) len cap)
  | slE (i o z : Nat) (a : Addr) (g : G) : ρ i = some g → VRel ρ (.sl i o 0 0 z) (.slice (some a) 0 0)
  | mapN : VRel ρ (.map none) (.map none)
  | map (i : Nat) (g : G) : ρ i = some g → VRel ρ (.map (some i)) (.map (some g.b))
  | func (f : FuncId) (a b : List AV) (c d : Array Value) : VRels ρ a c.toList → VRels ρ b d.toList → VRel ρ (.func f a b) (.func (.func f) c d)
  | nilFunc : VRel ρ .nilFunc .nilFunc
  | yld (i : Nat) (g : G) : ρ i = some g → VRel ρ (.yld i) (.func (.yield g.b) #[] #[])
  | iface (t : TypeId) (a : AV) (v : Value) : VRel ρ a v → VRel ρ (.iface t a) (.iface t v)
  | nilIface : VRel ρ .nilIface .nilIface
  | agg (l : List AV) (c : Array Value) : VRels ρ l c.toList → VRel ρ (.agg l) (.agg c)
  | tuple (l : List AV) (c : Array Value) : VRels ρ l c.toList → VRel ρ (.tuple l) (.tuple c)
inductive VRels (ρ : Rho) : List AV → List Value → Prop
  | nil : VRels ρ [] []
  | cons (a : AV) (v : Value) (l : List AV) (c : List Value) : VRel ρ a v → VRels ρ l c → VRels ρ (a :: l) (v :: c)
end

def Ext (ρ ρ' : Rho) : Prop := ∀ i g, ρ i = some g → ρ' i = some g
theorem Ext.refl (ρ : Rho) : Ext ρ ρ := fun _ _ h => h
theorem Ext.trans {a b c : Rho} (h : Ext a b) (k : Ext b c) : Ext a c := fun i g e => k i g (h i g e)
mutual
theorem VRel.mono {ρ ρ' : Rho} (e : Ext ρ ρ') : ∀ {a : AV} {v : Value}, VRel ρ a v → VRel ρ' a v
  | _, _, .bad v => .bad v
  | _, _, .bool b => .bool b
  | _, _, .int k n => .int k n
  | _, _, .str s => .str s
  | _, _, .ptrN => .ptrN
  | _, _, .ptr i o g h => .ptr i o g (e i g h)
  | _, _, .slN => .slN
  | _, _, .sl i o l k z c g h h1 h2 h3 => .sl i o l k z c g (e i g h) h1 h2 h3
  | _, _, .slE i o z a g h => .slE i o z a g (e i g h)
  | _, _, .mapN => .mapN
  | _, _, .map i g h => .map i g (e i g h)
  | _, _, .func f a b c d h k => .func f a b c d (VRels.mono e h) (VRels.mono e k)
  | _, _, .nilFunc => .nilFunc
  | _, _, .yld i g h => .yld i g (e i g h)
  | _, _, .iface t a v h => .iface t a v (VRel.mono e h)
  | _, _, .nilIface => .nilIface
  | _, _, .agg l c h => .agg l c (VRels.mono e h)
  | _, _, .tuple l c h => .tuple l c (VRels.mono e h)
theorem VRels.mono {ρ ρ' : Rho} (e : Ext ρ ρ') : ∀ {l : List AV} {c : List Value}, VRels ρ l c → VRels ρ' l c
  | _, _, .nil => .nil
  | _, _, .cons a v l c h k => .cons a v l c (VRel.mono e h) (VRels.mono e k)
end
namespace VRels
variable {ρ : Rho}
theorem length : ∀ {l : List AV} {c : List Value}, VRels ρ l c → l.length = c.length
  | _, _, .nil => rfl
  | _, _, .cons _ _ _ _ _ k => by simp [length k]
theorem get : ∀ {l : List AV} {c : List Value}, VRels ρ l c → ∀ (i : Nat) (a : AV), l[i]? = some a → ∃ v, c[i]? = some v ∧ VRel ρ a v
  | _, _, .nil, i, a, h => by simp at h
  | _, _, .cons b v l c h k, 0, a, e => by simp at e; subst e; exact ⟨v, rfl, h⟩
  | _, _, .cons b v l c h k, i + 1, a, e => by simp at e; simpa using get k i a e
theorem of_get : ∀ {l : List AV} {c : List Value}, l.length = c.length → (∀ (i : Nat) (a : AV) (v : Value), l[i]? = some a → c[i]? = some v → VRel ρ a v) → VRels ρ l c
  | [], [], _, _ => .nil
  | a :: l, v :: c, h, k => .cons a v l c (k 0 a v rfl rfl) (of_get (by simpa using h) fun i b u e f => k (i + 1) b u (by simpa using e) (by simpa using f))
theorem append : ∀ {l m : List AV} {c d : List Value}, VRels ρ l c → VRels ρ m d → VRels ρ (l ++ m) (c ++ d)
  | _, _, _, _, .nil, k => k
  | _, _, _, _, .cons a v l c h k, j => .cons a v _ _ h (append k j)
theorem drop : ∀ {l : List AV} {c : List Value} (n : Nat), VRels ρ l c → VRels ρ (l.drop n) (c.drop n)
  | _, _, 0, h => h
  | _, _, _ + 1, .nil => .nil
  | _, _, n + 1, .cons _ _ _ _ _ k => by simpa using drop n k
theorem take : ∀ {l : List AV} {c : List Value} (n : Nat), VRels ρ l c → VRels ρ (l.take n) (c.take n)
  | _, _, 0, _ => by simpa using VRels.nil
  | _, _, _ + 1, .nil => .nil
  | _, _, n + 1, .cons _ _ _ _ h k => by simpa using VRels.cons _ _ _ _ h (take n k)
end VRels

/-- Cells of a block, read. -/
def CellsRel (ρ : Rho) (cs : List AV) (c : Array Value) (base : Nat) : Prop := ∀ (i : Nat) (a : AV), cs[i]? = some a → ∃ v, c[base + i]? = some v ∧ VRel ρ a v
def Ents (ρ : Rho) (es : List (AV × AV)) (c : List MapEntry) : Prop :=
  es.length = c.length ∧ ∀ (i : Nat) (p : AV × AV) (q : MapEntry), es[i]? = some p → c[i]? = some q → VRel ρ p.1 q.key ∧ VRel ρ p.2 q.val
/-- A loop's state as a number. -/
def stN : LoopState → Nat
  | .ready => 0
  | .busy => 1
  | .done => 2
  | .exhausted => 3
def ORel (ρ : Rho) (w : World) : AObj → G → Prop
  | .row cs e rw, g => ∃ c e' fz, w.heap[g.b]? = some (.cells c e' fz) ∧ c.size = g.size ∧ g.base + cs.length ≤ c.size ∧ CellsRel ρ cs c g.base ∧ (rw.mine = true → g.rw = true) ∧
      (rw.mine = true → e' = e ∧ g.base = 0 ∧ (∀ k, Rw.ok rw k = true → (decide (fz.1 ≤ k) && decide (k < fz.2)) = true → g.size ≤ k) ∧ ∀ f, rw = .own f → fz.1 = fz.2 ∨ fz.1 = 0 ∧ fz.2 ≤ f)
  | .map es, g => ∃ c k, w.heap[g.b]? = some (.map c k) ∧ Ents ρ es c.toList
  | .iter s pos, g => ∃ bs, w.heap[g.b]? = some (.stringIter bs pos) ∧ bs.data.toList = s ∧ g.base = 0
  | .loop fn nt lv ts ps assign body st pend, g => ∃ L, w.heap[g.b]? = some (.loop L) ∧ L.fn = fn ∧ (∀ k, VRel ρ (rTs lv ts k) (L.tmps.getD k (.tuple #[]))) ∧ L.tmps.size = nt ∧ L.params.toList = ps ∧ L.assign = assign ∧ L.body = body ∧ L.pending = pend ∧ stN L.state = st
  | .gone, _ => True
def AObj.live : AObj → Bool
  | .gone => false
  | _ => true
def AObj.own : AObj → Bool
  | .row _ _ rw => rw.mine
  | .map _ => true
  | .iter _ _ => true
  | .loop _ _ _ _ _ _ _ _ _ => true
  | .gone => false
theorem AObj.live_of_own {o : AObj} (h : o.own = true) : o.live = true := by cases o <;> simp_all [AObj.own, AObj.live]
structure Sim (ρ : Rho) (H : Heap) (w : World) : Prop where
  obj : ∀ i o, H.get i = some o → o.live = true → ∃ g, ρ i = some g ∧ ORel ρ w o g
  sep : ∀ i j oi oj gi gj, H.get i = some oi → H.get j = some oj → i ≠ j → oi.own = true → oj.live = true → ρ i = some gi → ρ j = some gj → gi.b ≠ gj.b
  dom : ∀ i g, ρ i = some g → ∃ o, H.get i = some o
/-- One step: what the world and the state have become. -/
structure Stp (ρ : Rho) (H : Heap) (w : World) (ρ' : Rho) (H' : Heap) (w' : World) : Prop where
  ext : Ext ρ ρ'
  sim : Sim ρ' H' w'
  os : w'.os = w.os
  tape : w'.tape = w.tape
  output : w'.output = w.output
  size : w.heap.size ≤ w'.heap.size
  keep : ∀ b, b < w.heap.size → (∀ i o g, H.get i = some o → o.own = true → ρ i = some g → g.b ≠ b) → w'.heap[b]? = w.heap[b]?
  owns : ∀ i o g, H'.get i = some o → o.own = true → ρ' i = some g → g.b < w.heap.size → ∃ j oj gj, H.get j = some oj ∧ oj.own = true ∧ ρ j = some gj ∧ gj.b = g.b
theorem Stp.refl {ρ : Rho} {H : Heap} {w : World} (h : Sim ρ H w) : Stp ρ H w ρ H w :=
  ⟨Ext.refl ρ, h, rfl, rfl, rfl, Nat.le_refl _, fun _ _ _ => rfl, fun i o g a b c _ => ⟨i, o, g, a, b, c, rfl⟩⟩
theorem Stp.trans {ρ ρ1 ρ2 : Rho} {H H1 H2 : Heap} {w w1 w2 : World} (h : Stp ρ H w ρ1 H1 w1) (k : Stp ρ1 H1 w1 ρ2 H2 w2) : Stp ρ H w ρ2 H2 w2 where
  ext := h.ext.trans k.ext
  sim := k.sim
  os := k.os.trans h.os
  tape := k.tape.trans h.tape
  output := k.output.trans h.output
  size := Nat.le_trans h.size k.size
  keep := fun b hb hn => by
    rw [k.keep b (Nat.lt_of_lt_of_le hb h.size) ?_, h.keep b hb hn]
    intro i o g a c d e
    obtain ⟨j, oj, gj, a', c', d', e'⟩ := h.owns i o g a c d (by omega)
    exact hn j oj gj a' c' d' (by omega)
  owns := fun i o g a c d e => by
    obtain ⟨j, oj, gj, a', c', d', e'⟩ := k.owns i o g a c d (Nat.lt_of_lt_of_le e h.size)
    obtain ⟨j2, oj2, gj2, a2, c2, d2, e2⟩ := h.owns j oj gj a' c' d' (by omega)
    exact ⟨j2, oj2, gj2, a2, c2, d2, by omega⟩
/-- A draw turns nothing. -/
theorem ORel.heap {ρ : Rho} {w w' : World} {o : AObj} {g : G} (h : ORel ρ w o g) (e : w'.heap[g.b]? = w.heap[g.b]?) : ORel ρ w' o g := by
  cases o with
  | row cs t rw => obtain ⟨c, e', fz, h1, h2⟩ := h; exact ⟨c, e', fz, by rw [e]; exact h1, h2⟩
  | map es => obtain ⟨c, k, h1, h2⟩ := h; exact ⟨c, k, by rw [e]; exact h1, h2⟩
  | iter s p => obtain ⟨bs, h1, h2⟩ := h; exact ⟨bs, by rw [e]; exact h1, h2⟩
  | loop fn nt lv ts ps a b st pd => obtain ⟨L, h1, h2⟩ := h; exact ⟨L, by rw [e]; exact h1, h2⟩
  | gone => trivial
theorem Ents.mono {ρ ρ' : Rho} (e : Ext ρ ρ') {es : List (AV × AV)} {c : List MapEntry} (h : Ents ρ es c) : Ents ρ' es c :=
  ⟨h.1, fun i p q a b => ⟨((h.2 i p q a b).1).mono e, ((h.2 i p q a b).2).mono e⟩⟩
theorem ORel.mono {ρ ρ' : Rho} (e : Ext ρ ρ') {w : World} {o : AObj} {g : G} (h : ORel ρ w o g) : ORel ρ' w o g := by
  cases o with
  | row cs t rw =>
    obtain ⟨c, e', fz, h1, h2, h3, h4, h5, h6⟩ := h
    exact ⟨c, e', fz, h1, h2, h3, fun i a hi => by obtain ⟨v, x, y⟩ := h4 i a hi; exact ⟨v, x, y.mono e⟩, h5, h6⟩
  | map es => obtain ⟨c, k, h1, h2⟩ := h; exact ⟨c, k, h1, h2.mono e⟩
  | iter s p => exact h
  | loop fn nt lv ts ps a b st pd => obtain ⟨L, h1, h2, h3, h4⟩ := h; exact ⟨L, h1, h2, fun k => (h3 k).mono e, h4⟩
  | gone => trivial
theorem ORel.lt {ρ : Rho} {w : World} {o : AObj} {g : G} (h : ORel ρ w o g) (hl : o.live = true) : g.b < w.heap.size := by
  have : ∃ x, w.heap[g.b]? = some x := by
    cases o with
    | row cs t rw => obtain ⟨c, e', fz, h1, h2⟩ := h; exact ⟨_, h1⟩
    | map es => obtain ⟨c, k, h1, h2⟩ := h; exact ⟨_, h1⟩
    | iter s p => obtain ⟨bs, h1, h2⟩ := h; exact ⟨_, h1⟩
    | loop fn nt lv ts ps a b st pd => obtain ⟨L, h1, h2⟩ := h; exact ⟨_, h1⟩
    | gone => simp [AObj.live] at hl
  obtain ⟨x, hx⟩ := this
  exact (Array.getElem?_eq_some_iff.1 hx).1

/-- A draw. -/
theorem Stp.drew {ρ : Rho} {H : Heap} {w : World} (h : Sim ρ H w) (n : Nat) : Stp ρ H w ρ H { w with drawn := n } :=
  ⟨Ext.refl ρ, ⟨fun i o a b => by obtain ⟨g, x, y⟩ := h.obj i o a b; exact ⟨g, x, y.heap rfl⟩, h.sep, h.dom⟩, rfl, rfl, rfl, Nat.le_refl _, fun _ _ _ => rfl, fun i o g a b c _ => ⟨i, o, g, a, b, c, rfl⟩⟩

def rput (ρ : Rho) (n : Nat) (g : G) : Rho := fun i => if i = n then some g else ρ i
theorem rput_ext {ρ : Rho} {H : Heap} {w : World} (h : Sim ρ H w) {n : Nat} (hn : H.get n = none) (g : G) : Ext ρ (rput ρ n g) := by
  intro i g' e
  unfold rput
  rw [if_neg]
  · exact e
  · intro x; subst x; obtain ⟨o, ho⟩ := h.dom i g' e; rw [hn] at ho; cases ho

/-- A new object in a new block. -/
theorem Stp.new {ρ : Rho} {H : Heap} {w : World} (h : Sim ρ H w) {n : Nat} (hn : H.get n = none) (o : AObj) (g : G) (ob : Obj) (hg : g.b = w.heap.size)
    (ho : ORel (rput ρ n g) (w.alloc ob) o g) : Stp ρ H w (rput ρ n g) (H.set n o) (w.alloc ob) where
  ext := rput_ext h hn g
  sim := by
    have hx := rput_ext h hn g
    refine ⟨?_, ?_, ?_⟩
    · intro i o' hi hl
      rw [Tr.get_set] at hi
      by_cases e : i = n
      · subst e
        rw [if_pos rfl] at hi
        cases hi
        exact ⟨g, by simp [rput], ho⟩
      · rw [if_neg e] at hi
        obtain ⟨g', a, b⟩ := h.obj i o' hi hl
        refine ⟨g', hx i g' a, (b.mono hx).heap ?_⟩
        have := b.lt hl
        exact Below.heap_alloc w ob g'.b this
    · intro i j oi oj gi gj hi hj hne hoi hoj hri hrj
      rw [Tr.get_set] at hi hj
      by_cases e : i = n
      · subst e
        rw [if_neg (fun x => hne x.symm)] at hj
        obtain ⟨g', a, b⟩ := h.obj j oj hj hoj
        have := b.lt hoj
        have e1 : gi = g := by unfold rput at hri; rw [if_pos rfl] at hri; exact (Option.some.inj hri).symm
        have e2 : gj = g' := by rw [hx j g' a] at hrj; exact (Option.some.inj hrj).symm
        subst e1 e2
        omega
      · rw [if_neg e] at hi
        by_cases e' : j = n
        · subst e'
          obtain ⟨g', a, b⟩ := h.obj i oi hi (AObj.live_of_own hoi)
          have := b.lt (AObj.live_of_own hoi)
          have e1 : gj = g := by unfold rput at hrj; rw [if_pos rfl] at hrj; exact (Option.some.inj hrj).symm
          have e2 : gi = g' := by rw [hx i g' a] at hri; exact (Option.some.inj hri).symm
          subst e1 e2
          omega
        · rw [if_neg e'] at hj
          refine h.sep i j oi oj gi gj hi hj hne hoi hoj ?_ ?_
          · unfold rput at hri; rw [if_neg e] at hri; exact hri
          · unfold rput at hrj; rw [if_neg e'] at hrj; exact hrj
    · intro i g' hi
      rw [Tr.get_set]
      by_cases e : i = n
      · exact ⟨o, by rw [if_pos e]⟩
      · unfold rput at hi
        rw [if_neg e] at hi
        rw [if_neg e]
        exact h.dom i g' hi
  os := rfl
  tape := rfl
  output := rfl
  size := by simp
  keep := fun b hb _ => Below.heap_alloc w ob b hb
  owns := fun i o' g' a b c d => by
    rw [Tr.get_set] at a
    by_cases e : i = n
    · subst e
      unfold rput at c; rw [if_pos rfl] at c; cases c; omega
    · rw [if_neg e] at a
      unfold rput at c; rw [if_neg e] at c
      exact ⟨i, o', g', a, b, c, rfl⟩

/-- An own object's block is written. -/
theorem Stp.put {ρ : Rho} {H : Heap} {w : World} (h : Sim ρ H w) {i : Nat} {o o' : AObj} {g : G} (hi : H.get i = some o) (ho : o.own = true) (hg : ρ i = some g) {w' : World}
    (hs : w'.heap.size = w.heap.size) (hos : w'.os = w.os) (htp : w'.tape = w.tape) (hou : w'.output = w.output) (hb : ∀ b, b ≠ g.b → w'.heap[b]? = w.heap[b]?)
    (hn : ORel ρ w' o' g) : Stp ρ H w ρ (H.set i o') w' where
  ext := Ext.refl ρ
  sim := by
    refine ⟨?_, ?_, ?_⟩
    · intro j oj hj hl
      rw [Tr.get_set] at hj
      by_cases e : j = i
      · subst e
        rw [if_pos rfl] at hj
        cases hj
        exact ⟨g, hg, hn⟩
      · rw [if_neg e] at hj
        obtain ⟨g', a, b⟩ := h.obj j oj hj hl
        exact ⟨g', a, b.heap (hb _ (fun x => h.sep i j o oj g g' hi hj (fun y => e y.symm) ho hl hg a x.symm))⟩
    · intro j k oj ok gj gk hj hk hne hoj hok hrj hrk
      rw [Tr.get_set] at hj hk
      have hj' : ∃ oj', H.get j = some oj' ∧ oj'.own = true := by
        by_cases e : j = i
        · exact ⟨o, by rw [e]; exact hi, ho⟩
        · rw [if_neg e] at hj; exact ⟨oj, hj, hoj⟩
      have hk' : ∃ ok', H.get k = some ok' ∧ ok'.live = true := by
        by_cases e : k = i
        · exact ⟨o, by rw [e]; exact hi, AObj.live_of_own ho⟩
        · rw [if_neg e] at hk; exact ⟨ok, hk, hok⟩
      obtain ⟨oj', a, b⟩ := hj'
      obtain ⟨ok', c, d⟩ := hk'
      exact h.sep j k oj' ok' gj gk a c hne b d hrj hrk
    · intro j gj hj
      rw [Tr.get_set]
      by_cases e : j = i
      · exact ⟨o', by rw [if_pos e]⟩
      · rw [if_neg e]; exact h.dom j gj hj
  os := hos
  tape := htp
  output := hou
  size := by omega
  keep := fun b _ hn => hb b (fun e => hn i o g hi ho hg e.symm)
  owns := fun j oj gj a b c d => by
    rw [Tr.get_set] at a
    by_cases e : j = i
    · subst e
      rw [hg] at c; cases c
      exact ⟨j, o, g, hi, ho, hg, rfl⟩
    · rw [if_neg e] at a
      exact ⟨j, oj, gj, a, b, c, rfl⟩
end Go.Dn

/- Soundness, 2: each word of DnA does what the model's operation does. Scalars. -/
namespace Go.Dn
open M Go.RowKit

/-- What an operation's meaning comes to, for every schedule: a value and a world of which R holds. -/
def Does (P : Program) (s : Sem Next) (w : World) (R : Value → World → Prop) : Prop :=
  match s.run P w with
  | .ok (.value v) w' => R v w'
  | .ok .skip w' => R undef w'
  | .ok (.enter f args) w' => Calls P f args w' fun e w'' => ∃ v, e = .returned v ∧ R v w''
  | .ok (.round l f τ a b) w' => ∀ c cs, ∃ v w'', R v w'' ∧ Steps P (lone (Frame.round l f τ a b .normal) (c :: cs) w') (lone (c.finish v) cs w'')
  | _ => False
/-- What a computation without calls comes to. -/
def Val (P : Program) (s : Sem Value) (w : World) (R : Value → World → Prop) : Prop := ∃ v w', s.run P w = .ok v w' ∧ R v w'
theorem Does.of_val {P : Program} {s : Sem Value} {w : World} {R : Value → World → Prop} (h : Val P s w R) : Does P (do pure (.value (← s))) w R := by
  obtain ⟨v, w', h1, h2⟩ := h
  unfold Does
  have : (do pure (Next.value (← s)) : Sem Next).run P w = .ok (.value v) w' := by simp [h1]
  rw [this]
  exact h2
theorem Does.of_unit {P : Program} {s : Sem Unit} {w : World} {R : Value → World → Prop} (h : ∃ w', s.run P w = .ok () w' ∧ R undef w') : Does P (do s; pure .skip) w R := by
  obtain ⟨w', h1, h2⟩ := h
  unfold Does
  have : (do s; pure Next.skip : Sem Next).run P w = .ok .skip w' := by simp [h1]
  rw [this]
  exact h2
theorem Val.ret {P : Program} {w : World} {R : Value → World → Prop} {s : Sem Value} {v : Value} (e : s.run P w = .ok v w) (h : R v w) : Val P s w R := ⟨v, w, e, h⟩
/-- The outcome of a word: the state's and the world's. -/
def Out (ρ : Rho) (H : Heap) (w : World) (a : AV) (H' : Heap) (v : Value) (w' : World) : Prop := ∃ ρ', Stp ρ H w ρ' H' w' ∧ VRel ρ' a v
theorem Out.same {ρ : Rho} {H : Heap} {w : World} {a : AV} {v : Value} (hs : Sim ρ H w) (h : VRel ρ a v) : Out ρ H w a H v w := ⟨ρ, Stp.refl hs, h⟩

/-! ### Computations -/
theorem ret_some {α : Type} {a b : α} {H H' : Heap} {n n' : Nat} (h : M.ret a H n = some (b, H', n')) : a = b ∧ H = H' ∧ n = n' := by
  simp only [M.ret, Option.some.injEq, Prod.mk.injEq] at h; exact h
theorem bd_some {α β : Type} {m : M α} {f : α → M β} {H : Heap} {n : Nat} {r : β × Heap × Nat} (h : bd m f H n = some r) :
    ∃ a H1 n1, m H n = some (a, H1, n1) ∧ f a H1 n1 = some r := by
  unfold bd at h
  split at h
  · rename_i a H1 n1 e; exact ⟨a, H1, n1, e, h⟩
  · cases h
theorem ofO_some {α : Type} {o : Option α} {a : α} {H H' : Heap} {n n' : Nat} (h : ofO o H n = some (a, H', n')) : o = some a ∧ H = H' ∧ n = n' := by
  unfold ofO at h
  split at h
  · simp only [Option.some.injEq, Prod.mk.injEq] at h; obtain ⟨rfl, rfl, rfl⟩ := h; exact ⟨rfl, rfl, rfl⟩
  · cases h
theorem fail_some {α : Type} {H : Heap} {n : Nat} {r : α × Heap × Nat} (h : (fail : M α) H n = some r) : False := by cases h
theorem cond_some {α : Type} {b : Bool} {m : M α} {H : Heap} {n : Nat} {r : α × Heap × Nat} (h : (bif b then m else fail) H n = some r) : b = true ∧ m H n = some r := by
  cases b
  · exact (fail_some (n := n) (H := H) h).elim
  · exact ⟨rfl, h⟩

/-! ### Numbers -/
theorem ltI_eq (a b : Int) : ltI a b = decide (a < b) := by
  cases a <;> cases b <;> simp only [ltI] <;> rw [Bool.eq_iff_iff] <;> simp [Nat.blt_eq] <;> omega
theorem leI_eq (a b : Int) : leI a b = decide (a ≤ b) := by
  unfold leI; rw [ltI_eq, Bool.eq_iff_iff]; simp
theorem beq_eq (a b : Nat) : Nat.beq a b = decide (a = b) := by
  cases e : Nat.beq a b with
  | true => rw [Nat.eq_of_beq_eq_true e]; simp
  | false => have := Nat.ne_of_beq_eq_false e; simp [this]
theorem blt_eq (a b : Nat) : Nat.blt a b = decide (a < b) := by rw [Bool.eq_iff_iff]; simp
theorem ble_eq (a b : Nat) : Nat.ble a b = decide (a ≤ b) := by rw [Bool.eq_iff_iff]; simp
theorem eqI_eq (a b : Int) : eqI a b = decide (a = b) := by
  cases a <;> cases b <;> simp only [eqI, beq_eq] <;> rw [Bool.eq_iff_iff] <;> simp <;> omega
theorem wr_eq (k : IntKind) (n : Int) : wr k n = k.wrap n := by
  cases k <;> simp only [wr, wrS, IntKind.wrap, IntKind.bits, IntKind.signed, ltI_eq] <;> simp <;> split <;> split <;> first | rfl | omega
theorem eqK_eq {j k : IntKind} (h : eqK j k = true) : j = k := by cases j <;> cases k <;> first | rfl | cases h
theorem beqL_eq : ∀ (a b : List UInt8), beqL a b = decide (a = b)
  | [], [] => rfl
  | [], _ :: _ => by simp [beqL]
  | _ :: _, [] => by simp [beqL]
  | a :: x, b :: y => by
    unfold beqL
    rw [beqL_eq x y, beq_eq]
    by_cases h : a = b
    · subst h; simp
    · have : ¬ a.toNat = b.toNat := fun e => h (UInt8.toNat_inj.1 e)
      simp [this, h]
theorem ltL_eq : ∀ (a b : List UInt8), ltL a b = Op.bytesLess a b
  | _, [] => by cases ‹List UInt8› <;> rfl
  | [], _ :: _ => rfl
  | a :: x, b :: y => by
    unfold ltL Op.bytesLess
    rw [ltL_eq x y, blt_eq, beq_eq]
    have h1 : decide (a < b) = decide (a.toNat < b.toNat) := by rw [decide_eq_decide]; exact UInt8.lt_iff_toNat_lt
    have h2 : (a == b) = decide (a.toNat = b.toNat) := by
      rw [Bool.eq_iff_iff]; simp [UInt8.toNat_inj]
    rw [h1, h2]
    cases decide (a.toNat < b.toNat) <;> cases decide (a.toNat = b.toNat) <;> simp
theorem bytesLess_asymm : ∀ (a b : List UInt8), Op.bytesLess b a = !(Op.bytesLess a b || decide (a = b))
  | [], [] => rfl
  | [], _ :: _ => by simp [Op.bytesLess]
  | _ :: _, [] => by simp [Op.bytesLess]
  | a :: x, b :: y => by
    unfold Op.bytesLess
    rw [bytesLess_asymm x y]
    by_cases h : a = b
    · subst h
      have : ¬ a < a := by simp
      simp [this]
    · have hb : (b == a) = false := by rw [beq_eq_false_iff_ne]; exact fun e => h e.symm
      have ha : (a == b) = false := by rw [beq_eq_false_iff_ne]; exact h
      by_cases hl : a < b
      · have : ¬ b < a := by rw [UInt8.lt_iff_toNat_lt] at *; omega
        simp [hl, this, hb, h]
      · have : b < a := by
          have : a.toNat ≠ b.toNat := fun e => h (UInt8.toNat_inj.1 e)
          rw [UInt8.lt_iff_toNat_lt] at *; omega
        simp [hl, this, ha, h]
theorem toList_data (s : ByteArray) : s.toList = s.data.toList := ByteArray.toList_eq s

/-! ### Binary operations -/
theorem deq_int (a b : Int) : (a == b) = decide (a = b) := by rw [Bool.eq_iff_iff]; simp
theorem arI_sound {P : Program} {op : BinOp} {ty : TypeId} {k : IntKind} {a b : Int} {r : AV} (h : arI op k a b = some r) (hs : op ≠ .shl ∧ op ≠ .shr) (w : World) (ρ : Rho) :
    ∃ v, (binOp op ty (.int k a) (.int k b)).run P w = .ok v w ∧ VRel ρ r v := by
  cases op <;> simp only [arI] at h
  case quo =>
    rw [eqI_eq] at h
    by_cases hb : b = 0
    · simp [hb] at h
    · simp [hb] at h; subst h
      exact ⟨.int k (k.wrap (a.tdiv b)), by rw [binOp_quo]; simp [Op.intDiv, hb], by rw [wr_eq]; exact .int _ _⟩
  case rem =>
    rw [eqI_eq] at h
    by_cases hb : b = 0
    · simp [hb] at h
    · simp [hb] at h; subst h
      exact ⟨.int k (a.tmod b), by rw [binOp_rem]; simp [Op.intDiv, hb], .int _ _⟩
  case shl => exact absurd rfl hs.1
  case shr => exact absurd rfl hs.2
  all_goals (cases h)
  case add => exact ⟨.int k (k.wrap (a + b)), by rw [binOp_add]; rfl, by rw [wr_eq]; exact .int _ _⟩
  case sub => exact ⟨.int k (k.wrap (a - b)), by rw [binOp_sub]; rfl, by rw [wr_eq]; exact .int _ _⟩
  case mul => exact ⟨.int k (k.wrap (a * b)), by rw [binOp_mul]; rfl, by rw [wr_eq]; exact .int _ _⟩
  case and => exact ⟨.int k (Go.bits .and k a b), by rw [binOp_and]; rfl, .int _ _⟩
  case or => exact ⟨.int k (Go.bits .or k a b), by rw [binOp_or]; rfl, .int _ _⟩
  case xor => exact ⟨.int k (Go.bits .xor k a b), by rw [binOp_xor]; rfl, .int _ _⟩
  case andNot => exact ⟨.int k (Go.bits .andNot k a b), by rw [binOp_andNot]; rfl, .int _ _⟩
  case eql => exact ⟨.bool (a == b), by rw [binOp_eql]; rfl, by rw [eqI_eq, deq_int]; exact .bool _⟩
  case neq => exact ⟨.bool (a != b), by rw [binOp_neq]; rfl, by rw [eqI_eq, bne, deq_int]; exact .bool _⟩
  case lss => exact ⟨.bool (decide (a < b)), by rw [binOp_lss]; rfl, by rw [ltI_eq]; exact .bool _⟩
  case leq => exact ⟨.bool (decide (a ≤ b)), by rw [binOp_leq]; rfl, by rw [leI_eq]; exact .bool _⟩
  case gtr => exact ⟨.bool (decide (a > b)), by rw [binOp_gtr]; rfl, by rw [ltI_eq]; exact .bool _⟩
  case geq => exact ⟨.bool (decide (a ≥ b)), by rw [binOp_geq]; rfl, by rw [leI_eq]; exact .bool _⟩
theorem shI_sound {P : Program} {op : BinOp} {ty : TypeId} {j k : IntKind} {a b : Int} {r : AV} (h : shI op k a b = some r) (hs : op = .shl ∨ op = .shr) (w : World) (ρ : Rho) :
    ∃ v, (binOp op ty (.int k a) (.int j b)).run P w = .ok v w ∧ VRel ρ r v := by
  unfold shI at h
  rw [ltI_eq] at h
  by_cases hb : b < 0
  · simp [hb] at h
  · simp only [hb, decide_false, cond_false] at h
    rcases hs with rfl | rfl
    · cases h
      exact ⟨.int k (k.wrap (a * 2 ^ (min b.toNat k.bits))), by simp [binOp, Op.shift, hb], by rw [wr_eq]; exact .int _ _⟩
    · cases h
      exact ⟨.int k (a.fdiv (2 ^ (min b.toNat k.bits))), by simp [binOp, Op.shift, hb], .int _ _⟩
theorem arS_sound {P : Program} {op : BinOp} {ty : TypeId} {a b : ByteArray} {r : AV} (h : arS op a.data.toList b.data.toList = some r) (w : World) (ρ : Rho) :
    ∃ v, (binOp op ty (.string a) (.string b)).run P w = .ok v w ∧ VRel ρ r v := by
  have hl : a.data.toList.length = a.size := by rw [Array.length_toList]; rfl
  have hl' : b.data.toList.length = b.size := by rw [Array.length_toList]; rfl
  have hb : binOp op ty (.string a) (.string b) = Op.stringOp op a b := by cases op <;> rfl
  rw [hb]
  cases op <;> simp only [arS] at h
  case add =>
    rw [hl, hl', ble_eq] at h
    by_cases hx : a.size + b.size ≤ 9223372036854775807
    · simp [hx] at h; subst h
      refine ⟨.string (a ++ b), ?_, ?_⟩
      · have : ¬ ((a.size + b.size : Nat) : Int) > IntKind.i64.max := by simp; omega
        simp only [Op.stringOp]
        rw [if_neg this]
        rfl
      · have : a.data.toList ++ b.data.toList = (a ++ b).data.toList := by simp
        rw [this]; exact .str _
    · simp [hx] at h
  all_goals (cases h)
  all_goals (simp only [Op.stringOp, toList_data, Sem.run_pure, beqL_eq, ltL_eq])
  · exact ⟨_, rfl, by rw [show (a.data.toList == b.data.toList) = decide (a.data.toList = b.data.toList) from by rw [Bool.eq_iff_iff]; simp]; exact .bool _⟩
  · exact ⟨_, rfl, by rw [show (a.data.toList == b.data.toList) = decide (a.data.toList = b.data.toList) from by rw [Bool.eq_iff_iff]; simp]; exact .bool _⟩
  · exact ⟨_, rfl, .bool _⟩
  · refine ⟨_, rfl, ?_⟩
    rw [bytesLess_asymm a.data.toList b.data.toList, show (a.data.toList == b.data.toList) = decide (a.data.toList = b.data.toList) from by rw [Bool.eq_iff_iff]; simp, Bool.not_not]; exact .bool _
  · refine ⟨_, rfl, ?_⟩
    rw [bytesLess_asymm a.data.toList b.data.toList, show (a.data.toList == b.data.toList) = decide (a.data.toList = b.data.toList) from by rw [Bool.eq_iff_iff]; simp]; exact .bool _
  · exact ⟨_, rfl, .bool _⟩
theorem bi_sound {P : Program} {op : BinOp} {ty : TypeId} {x y r : AV} {H H' : Heap} {n n' : Nat} {ρ : Rho} {x' y' : Value} (h : bi op x y H n = some (r, H', n')) (hx : VRel ρ x x') (hy : VRel ρ y y') (ox oy : Operand) (w : World) :
    H' = H ∧ n' = n ∧ ∃ v, (do eqGuard op ty ox oy x' y'; binOp op ty x' y').run P w = .ok v w ∧ VRel ρ r v := by
  unfold bi at h
  split at h
  · rename_i j a k b
    cases hx
    cases hy
    rw [show (do eqGuard op ty ox oy (.int j a) (.int k b); binOp op ty (.int j a) (.int k b)) = (binOp op ty (.int j a) (.int k b) : Sem Value) from by rw [eqGuard_at_int]; rfl]
    split at h
    · obtain ⟨h1, rfl, rfl⟩ := ofO_some h
      exact ⟨rfl, rfl, shI_sound h1 (.inl rfl) w ρ⟩
    · obtain ⟨h1, rfl, rfl⟩ := ofO_some h
      exact ⟨rfl, rfl, shI_sound h1 (.inr rfl) w ρ⟩
    · rename_i h2 h3
      obtain ⟨h1, rfl, rfl⟩ := ofO_some h
      cases he : eqK j k with
      | false => rw [he] at h1; cases h1
      | true =>
        rw [he] at h1
        have := eqK_eq he
        subst this
        exact ⟨rfl, rfl, arI_sound h1 ⟨h2, h3⟩ w ρ⟩
  · cases hx
    cases hy
    obtain ⟨h1, rfl, rfl⟩ := ofO_some h
    rename_i a b
    rw [show (do eqGuard op ty ox oy (.string a) (.string b); binOp op ty (.string a) (.string b)) = (binOp op ty (.string a) (.string b) : Sem Value) from by rw [eqGuard_at_string]; rfl]
    exact ⟨rfl, rfl, arS_sound h1 w ρ⟩
  · exact (fail_some h).elim
end Go.Dn

/- Soundness, 3: comparisons, conversions, cuts, addresses: words that turn no memory. -/
namespace Go.Dn
open M Go.RowKit

theorem tyU_some {P : Program} {t : TypeId} {d : TypeDesc} (h : tyU P t = d) (hd : d ≠ .invalid) : P.underlying t = some d := by
  unfold tyU at h
  cases e : P.underlying t with
  | none => rw [e] at h; exact absurd h.symm hd
  | some x => rw [e] at h; simp at h; rw [h]
theorem tySz_info {P : Program} {t : TypeId} (h : tySz P t ≠ 0) : ∃ i, P.info? t = some i ∧ i.size = tySz P t := by
  unfold tySz at *
  cases e : P.info? t with
  | none => rw [e] at h; exact absurd rfl h
  | some i => exact ⟨i, rfl, rfl⟩
theorem run_sizeOf {P : Program} {t : TypeId} {i : TypeInfo} (h : P.info? t = some i) (w : World) : (sizeOf t).run P w = .ok i.size w := by
  simp [sizeOf, typeInfo, h]
theorem tyAgg_eq {P : Program} {t : TypeId} (h : (P.underlying t).isSome = true) (w : World) : (isAgg t).run P w = .ok (tyAgg P t) w := by
  cases e : P.underlying t with
  | none => rw [e] at h; cases h
  | some d => cases d <;> simp [isAgg, run_underlying e, tyAgg, tyU, e]

/-! ### '==' -/
theorem asEq_some {op : BinOp} {o : Option Bool} {H H' : Heap} {n n' : Nat} {r : AV} (h : asEq op o H n = some (r, H', n')) :
    H' = H ∧ n' = n ∧ ∃ b, o = some b ∧ ((op = .eql ∧ r = .bool b) ∨ (op = .neq ∧ r = .bool (!b))) := by
  unfold asEq at h
  split at h
  · obtain ⟨rfl, rfl, rfl⟩ := ret_some h; exact ⟨rfl, rfl, _, rfl, .inl ⟨rfl, rfl⟩⟩
  · obtain ⟨rfl, rfl, rfl⟩ := ret_some h; exact ⟨rfl, rfl, _, rfl, .inr ⟨rfl, rfl⟩⟩
  · exact (fail_some h).elim
/-- What type descriptions a class of comparisons takes. -/
def Cls.fits (P : Program) : Cls → TypeDesc → Prop
  | .b, .bool => True
  | .p, .pointer e => tySz P e ≠ 0
  | .p, .unsafePointer => True
  | .s, .slice _ => True
  | .m, .map _ _ => True
  | .f, .func _ _ _ => True
  | _, _ => False
theorem eqC_sound {P : Program} {c : Cls} {x y : AV} {b : Bool} (h : eqC c x y = some b) {ρ : Rho} {x' y' : Value} (hx : VRel ρ x x') (hy : VRel ρ y y') {ty : TypeId} {d : TypeDesc} (hu : P.underlying ty = some d) (hf : c.fits P d) (w : World)
    (ox oy : Operand) : (eqGuard .eql ty ox oy x' y' = pure () ∧ eqGuard .neq ty ox oy x' y' = pure ()) ∧ binOp .eql ty x' y' = (do pure (.bool (← Op.equal ty x' y'))) ∧ binOp .neq ty x' y' = (do pure (.bool (!(← Op.equal ty x' y')))) ∧
      ∀ k : Nat, (Op.equalIn (k + 1) ty x' y').run P w = .ok b w := by
  unfold eqC at h
  split at h
  case h_1 =>
    cases h; cases hx; cases hy
    refine ⟨⟨eqGuard_at_bool .., eqGuard_at_bool ..⟩, rfl, rfl, fun k => ?_⟩
    cases d <;> simp only [Cls.fits] at hf
    simp [Op.equalIn, run_underlying hu]
  case h_2 =>
    cases h; cases hx; cases hy
    refine ⟨⟨eqGuard_at_pointer .., eqGuard_at_pointer ..⟩, rfl, rfl, fun k => ?_⟩
    cases d <;> simp only [Cls.fits] at hf
    · simp [Op.equalIn, run_underlying hu, samePointer]
    · simp [Op.equalIn, run_underlying hu]
  case h_3 =>
    cases h; cases hx; cases hy
    refine ⟨⟨eqGuard_at_pointer .., eqGuard_at_pointer ..⟩, rfl, rfl, fun k => ?_⟩
    cases d <;> simp only [Cls.fits] at hf
    · simp [Op.equalIn, run_underlying hu, samePointer]
    · simp [Op.equalIn, run_underlying hu]
  case h_4 =>
    cases h; cases hx; cases hy
    refine ⟨⟨eqGuard_at_pointer .., eqGuard_at_pointer ..⟩, rfl, rfl, fun k => ?_⟩
    cases d <;> simp only [Cls.fits] at hf
    · simp [Op.equalIn, run_underlying hu, samePointer]
    · simp [Op.equalIn, run_underlying hu]
  case h_5 i a j b' =>
    rw [beq_eq] at h
    by_cases hij : i = j
    · subst hij
      simp only [decide_true, cond_true, Option.some.injEq] at h
      subst h
      cases hx with
      | ptr _ _ g hg =>
      cases hy with
      | ptr _ _ g' hg' =>
      rw [hg] at hg'; cases hg'
      have hab : ((⟨g.b, g.base + a, none⟩ : Addr) == ⟨g.b, g.base + b', none⟩) = Nat.beq a b' := by
        rw [beq_eq, Bool.eq_iff_iff]; simp
      refine ⟨⟨eqGuard_at_pointer .., eqGuard_at_pointer ..⟩, rfl, rfl, fun k => ?_⟩
      cases d <;> simp only [Cls.fits] at hf
      · simp [Op.equalIn, run_underlying hu, samePointer, sameAddr, hab]
      · obtain ⟨i', hi, hsz⟩ := tySz_info hf
        simp [Op.equalIn, run_underlying hu, run_sizeOf hi, hsz, hf, sameAddr, hab]
    · simp [hij] at h
  case h_6 =>
    cases h; cases hx; cases hy
    refine ⟨⟨eqGuard_at_slice .., eqGuard_at_slice ..⟩, rfl, rfl, fun k => ?_⟩
    cases d <;> simp only [Cls.fits] at hf
    simp [Op.equalIn, run_underlying hu]
  case h_7 =>
    cases h; cases hx
    have : ∃ a n m, y' = .slice (some a) n m := by cases hy <;> exact ⟨_, _, _, rfl⟩
    obtain ⟨a, n, m, rfl⟩ := this
    refine ⟨⟨eqGuard_at_slice .., eqGuard_at_slice ..⟩, rfl, rfl, fun k => ?_⟩
    cases d <;> simp only [Cls.fits] at hf
    simp [Op.equalIn, run_underlying hu]
  case h_8 =>
    cases h; cases hy
    have : ∃ a n m, x' = .slice (some a) n m := by cases hx <;> exact ⟨_, _, _, rfl⟩
    obtain ⟨a, n, m, rfl⟩ := this
    refine ⟨⟨eqGuard_at_slice .., eqGuard_at_slice ..⟩, rfl, rfl, fun k => ?_⟩
    cases d <;> simp only [Cls.fits] at hf
    simp [Op.equalIn, run_underlying hu]
  case h_9 =>
    cases h; cases hx; cases hy
    refine ⟨⟨eqGuard_at_map .., eqGuard_at_map ..⟩, rfl, rfl, fun k => ?_⟩
    cases d <;> simp only [Cls.fits] at hf
    simp [Op.equalIn, run_underlying hu]
  case h_10 =>
    cases h; cases hx; cases hy
    refine ⟨⟨eqGuard_at_map .., eqGuard_at_map ..⟩, rfl, rfl, fun k => ?_⟩
    cases d <;> simp only [Cls.fits] at hf
    simp [Op.equalIn, run_underlying hu]
  case h_11 =>
    cases h; cases hx; cases hy
    refine ⟨⟨eqGuard_at_map .., eqGuard_at_map ..⟩, rfl, rfl, fun k => ?_⟩
    cases d <;> simp only [Cls.fits] at hf
    simp [Op.equalIn, run_underlying hu]
  case h_12 =>
    cases h; cases hx; cases hy
    refine ⟨⟨eqGuard_at_nilFunc .., eqGuard_at_nilFunc ..⟩, rfl, rfl, fun k => ?_⟩
    cases d <;> simp only [Cls.fits] at hf
    simp [Op.equalIn, run_underlying hu]
  case h_13 =>
    cases h; cases hx; cases hy
    refine ⟨⟨eqGuard_at_nilFunc .., eqGuard_at_nilFunc ..⟩, rfl, rfl, fun k => ?_⟩
    cases d <;> simp only [Cls.fits] at hf
    simp [Op.equalIn, run_underlying hu]
  case h_14 =>
    cases h; cases hx; cases hy
    refine ⟨⟨eqGuard_at_func .., eqGuard_at_func ..⟩, rfl, rfl, fun k => ?_⟩
    cases d <;> simp only [Cls.fits] at hf
    simp [Op.equalIn, run_underlying hu]
  case h_15 => cases h
theorem be_sound {P : Program} {c : Cls} {op : BinOp} {ty : TypeId} {d : TypeDesc} {x y r : AV} {H H' : Heap} {n n' : Nat} {ρ : Rho} {x' y' : Value} (h : be c op x y H n = some (r, H', n')) (hu : P.underlying ty = some d) (hf : c.fits P d) (hx : VRel ρ x x') (hy : VRel ρ y y')
    (ox oy : Operand) (w : World) : H' = H ∧ n' = n ∧ ∃ v, (do eqGuard op ty ox oy x' y'; binOp op ty x' y').run P w = .ok v w ∧ VRel ρ r v := by
  obtain ⟨rfl, rfl, b, hb, hop⟩ := asEq_some h
  obtain ⟨⟨g1, g2⟩, e1, e2, e3'⟩ := eqC_sound hb hx hy hu hf w ox oy
  have e3 : (Op.equal ty x' y').run P w = .ok b w := e3' 9999
  refine ⟨rfl, rfl, ?_⟩
  rcases hop with ⟨rfl, rfl⟩ | ⟨rfl, rfl⟩
  · exact ⟨.bool b, by rw [g1, e1]; simp [e3], .bool _⟩
  · exact ⟨.bool (!b), by rw [g2, e2]; simp [e3], .bool _⟩
/-- A cell's kind and its field's type. -/
def FK.fits : FK → TypeDesc → Prop
  | .b, .bool => True
  | .i, .int _ => True
  | .s, .string => True
  | _, _ => False
theorem eqF_sound {P : Program} {q : FK} {x y : AV} {b : Bool} (h : eqF q x y = some b) {ρ : Rho} {x' y' : Value} (hx : VRel ρ x x') (hy : VRel ρ y y') {ty : TypeId} {d : TypeDesc} (hu : P.underlying ty = some d) (hf : q.fits d) (k : Nat) (w : World) :
    (Op.equalIn (k + 1) ty x' y').run P w = .ok b w := by
  unfold eqF at h
  split at h
  · cases h; cases hx; cases hy
    cases d <;> simp only [FK.fits] at hf
    simp [Op.equalIn, run_underlying hu]
  · rename_i j a k' b'
    cases hx; cases hy
    cases he : eqK j k' with
    | false => rw [he] at h; cases h
    | true =>
      have := eqK_eq he; subst this
      rw [he] at h; simp only [cond_true, Option.some.injEq] at h; subst h
      cases d <;> simp only [FK.fits] at hf
      simp [Op.equalIn, run_underlying hu, eqI_eq, deq_int]
  · rename_i a b'
    cases h
    cases hx with
    | str s =>
    cases hy with
    | str s' =>
    cases d <;> simp only [FK.fits] at hf
    have hbe := beq_toListBytes s s'
    rw [toList_data, toList_data] at hbe
    simp [Op.equalIn, run_underlying hu, beqL_eq, hbe]
    rw [Bool.eq_iff_iff]; simp
  · cases h
end Go.Dn

/- Soundness, 4: structs' '==', conversions, cuts, addresses. -/
namespace Go.Dn
open M Go.RowKit

theorem scalarT_some {P : Program} {t : TypeId} {k : FK} (h : scalarT P t = some k) : ∃ d, P.underlying t = some d ∧ k.fits d ∧ tyAgg P t = false ∧ ∀ n, P.eqGuardType (n + 1) t = false := by
  unfold scalarT at h
  split at h
  · rename_i e
    have := tyU_some e (by simp)
    cases h; exact ⟨_, this, trivial, by simp [tyAgg, e], fun n => by unfold Program.eqGuardType; simp [this]⟩
  · rename_i e
    have := tyU_some e (by simp)
    cases h; exact ⟨_, this, trivial, by simp [tyAgg, e], fun n => by unfold Program.eqGuardType; simp [this]⟩
  · rename_i e
    have := tyU_some e (by simp)
    cases h; exact ⟨_, this, trivial, by simp [tyAgg, e], fun n => by unfold Program.eqGuardType; simp [this]⟩
  · cases h
theorem run_part1 {P : Program} {t : TypeId} (h : (P.underlying t).isSome = true) (ha : tyAgg P t = false) {cs : Array Value} {o : Nat} {v : Value} (hv : cs[o]? = some v) (w : World) : (part t cs o).run P w = .ok v w := by
  simp [part, tyAgg_eq h, ha, hv]
theorem eqFields_cons {P : Program} {o : Nat} {f : Field} {fs : List Field} {ks : List FK} (h : eqFields P o (f :: fs) = some ks) :
    ∃ k l, ks = k :: l ∧ scalarT P f.type = some k ∧ eqFields P (o + 1) fs = some l ∧ f.name ≠ "_" ∧ f.offset = o := by
  unfold eqFields at h
  split at h
  · rename_i k l h1 h2
    cases hc : (f.name != "_" && Nat.beq f.offset o) with
    | false => rw [hc] at h; cases h
    | true =>
      rw [hc] at h; cases h
      simp only [Bool.and_eq_true, beq_eq, decide_eq_true_eq] at hc
      exact ⟨k, l, rfl, h1, h2, by simpa using hc.1, hc.2⟩
  · cases h
theorem eqFields_sound {P : Program} {ρ : Rho} (d : Nat) (w : World) (xs ys : Array Value) : ∀ (fs : List Field) (o : Nat) (ks : List FK) (a b : List AV) (r : Bool), eqFields P o fs = some ks → eqAs ks a b = some r →
    (∀ i u, a[i]? = some u → ∃ v, xs[o + i]? = some v ∧ VRel ρ u v) → (∀ i u, b[i]? = some u → ∃ v, ys[o + i]? = some v ∧ VRel ρ u v) → (Op.eqFields (d + 1) xs ys fs).run P w = .ok r w := by
  intro fs
  induction fs with
  | nil =>
    intro o ks a b r hk h _ _
    cases hk
    cases a <;> cases b <;> simp [eqAs] at h
    subst h; simp [Op.eqFields]
  | cons f fs ih =>
    intro o ks a b r hk h ha hb
    obtain ⟨k, l, rfl, hs, hl, hn, ho⟩ := eqFields_cons hk
    cases a with
    | nil => simp [eqAs] at h
    | cons a as =>
      cases b with
      | nil => simp [eqAs] at h
      | cons b bs =>
        unfold eqAs at h
        split at h
        · rename_i p q hp hq
          cases h
          obtain ⟨v, hv, hva⟩ := ha 0 a rfl
          obtain ⟨u, hu, hub⟩ := hb 0 b rfl
          rw [Nat.add_zero, ho.symm] at hv hu
          obtain ⟨dd, hd, hf, hag, _⟩ := scalarT_some hs
          have hsome : (P.underlying f.type).isSome = true := by rw [hd]; rfl
          have he := eqF_sound hp hva hub hd hf d w
          have hrest := ih (o + 1) l as bs q hl hq (fun i x hx => by
            obtain ⟨v', e1, e2⟩ := ha (i + 1) x (by simpa using hx)
            exact ⟨v', by rw [show o + 1 + i = o + (i + 1) from by omega]; exact e1, e2⟩) (fun i x hx => by
            obtain ⟨v', e1, e2⟩ := hb (i + 1) x (by simpa using hx)
            exact ⟨v', by rw [show o + 1 + i = o + (i + 1) from by omega]; exact e1, e2⟩)
          unfold Op.eqFields
          rw [if_pos hn]
          simp only [Sem.run_bind, run_part1 hsome hag hv, run_part1 hsome hag hu, Result.andThen_ok, he]
          cases p
          · simp
          · simp [hrest]
        · cases h
theorem eqGuardType_no {P : Program} : ∀ (fs : List Field) (o d : Nat) (ks : List FK), eqFields P o fs = some ks → (fs.any fun f => f.name != "_" && P.eqGuardType (d + 1) f.type) = false := by
  intro fs
  induction fs with
  | nil => intros; rfl
  | cons f fs ih =>
    intro o d ks h
    obtain ⟨k, l, rfl, hs, hl, hn, ho⟩ := eqFields_cons h
    obtain ⟨_, _, _, _, hg⟩ := scalarT_some hs
    simp [hg, ih _ _ _ hl]
theorem VRels.cells {ρ : Rho} {l : List AV} {c : Array Value} (h : VRels ρ l c.toList) : ∀ i u, l[i]? = some u → ∃ v, c[0 + i]? = some v ∧ VRel ρ u v := by
  intro i u hu
  obtain ⟨v, e, k⟩ := h.get i u hu
  exact ⟨v, by rw [Nat.zero_add]; simpa using e, k⟩
theorem bis_sound {P : Program} {op : BinOp} {ty : TypeId} {ks : List FK} {x y r : AV} {H H' : Heap} {n n' : Nat} {ρ : Rho} {x' y' : Value} (hok : eqOK P ty = some ks) (h : bis ks op x y H n = some (r, H', n')) (hx : VRel ρ x x') (hy : VRel ρ y y')
    (ox oy : Operand) (w : World) : H' = H ∧ n' = n ∧ ∃ v, (do eqGuard op ty ox oy x' y'; binOp op ty x' y').run P w = .ok v w ∧ VRel ρ r v := by
  unfold bis at h
  split at h
  · rename_i a b
    obtain ⟨rfl, rfl, q, hq, hop⟩ := asEq_some h
    cases hx with
    | agg _ c hc =>
    cases hy with
    | agg _ c' hc' =>
    unfold eqOK at hok
    split at hok
    · rename_i fs e
      have hu := tyU_some e (by simp)
      cases hst : P.stoodInHeld ty with
      | true => rw [hst] at hok; cases hok
      | false =>
        rw [hst] at hok
        have hfo : P.fieldsOf ty = fs := by simp [Program.fieldsOf, hu]
        have hd : P.depth = P.depth - 1 + 1 := by unfold Program.depth; omega
        have hg : P.eqGuardType P.depth ty = false := by
          rw [hd]; unfold Program.eqGuardType; simp only [hu]
          rw [hd, ← Array.any_toList]
          have : P.depth - 1 = P.depth - 2 + 1 := by unfold Program.depth; omega
          rw [show P.depth - 1 + 1 - 1 = P.depth - 2 + 1 from by omega]
          exact eqGuardType_no _ _ _ _ hok
        have he : (Op.equalIn 10000 ty (.agg c) (.agg c')).run P w = .ok q w := by
          have := run_equalIn_agg (P := P) w 9999 ty c c' (by rw [hfo]; exact hu) hst
          rw [this, hfo]
          exact eqFields_sound 9998 w c c' fs.toList 0 ks a b q hok hq hc.cells hc'.cells
        refine ⟨rfl, rfl, ?_⟩
        have hgu := run_eqGuard_agg (P := P) w op ty ox oy c c' hg
        rcases hop with ⟨rfl, rfl⟩ | ⟨rfl, rfl⟩
        · exact ⟨.bool q, by rw [Sem.run_bind, hgu, Result.andThen_ok, run_eql_struct, he]; rfl, .bool _⟩
        · exact ⟨.bool (!q), by rw [Sem.run_bind, hgu, Result.andThen_ok, run_neq_struct, he]; rfl, .bool _⟩
    · cases hok
  · exact (fail_some h).elim
end Go.Dn

/- Soundness, 5: the other words that turn no memory. -/
namespace Go.Dn
open M Go.RowKit

theorem un_sound {P : Program} {op : UnOp} {x r : AV} {H H' : Heap} {n n' : Nat} {ρ : Rho} {x' : Value} (h : un op x H n = some (r, H', n')) (hx : VRel ρ x x') (w : World) :
    H' = H ∧ n' = n ∧ ∃ v, (Op.unary op x').run P w = .ok v w ∧ VRel ρ r v := by
  unfold un at h
  split at h
  · obtain ⟨rfl, rfl, rfl⟩ := ret_some h
    cases hx
    exact ⟨rfl, rfl, _, rfl, by rw [wr_eq]; exact .int _ _⟩
  · obtain ⟨rfl, rfl, rfl⟩ := ret_some h
    cases hx
    exact ⟨rfl, rfl, _, rfl, .int _ _⟩
  · obtain ⟨rfl, rfl, rfl⟩ := ret_some h
    cases hx
    exact ⟨rfl, rfl, _, rfl, .bool _⟩
  · exact (fail_some h).elim
theorem pk_sound {P : Program} {c a b r : AV} {H H' : Heap} {n n' : Nat} {ρ : Rho} {c' a' b' : Value} (h : pk c a b H n = some (r, H', n')) (hc : VRel ρ c c') (ha : VRel ρ a a') (hb : VRel ρ b b') (w : World) :
    H' = H ∧ n' = n ∧ ∃ v, (do pure (Next.value (if ← asBool c' then a' else b')) : Sem Next).run P w = .ok (.value v) w ∧ VRel ρ r v := by
  unfold pk at h
  split at h
  · rename_i p
    obtain ⟨rfl, rfl, rfl⟩ := ret_some h
    cases hc
    refine ⟨rfl, rfl, if p = true then a' else b', by simp [asBool], ?_⟩
    cases p <;> simpa
  · exact (fail_some h).elim
theorem ex_sound {P : Program} {x r : AV} {i : Nat} {H H' : Heap} {n n' : Nat} {ρ : Rho} {x' : Value} (h : ex x i H n = some (r, H', n')) (hx : VRel ρ x x') (w : World) :
    H' = H ∧ n' = n ∧ ∃ v, (Instr.extract x' i).run P w = .ok v w ∧ VRel ρ r v := by
  unfold ex at h
  split at h
  · obtain ⟨h1, rfl, rfl⟩ := ofO_some h
    cases hx with
    | tuple _ c hc =>
    obtain ⟨v, e, k⟩ := hc.get i r h1
    rw [Array.getElem?_toList] at e
    exact ⟨rfl, rfl, v, by simp [Instr.extract, e], k⟩
  · exact (fail_some h).elim
theorem ci_sound {P : Program} {k : IntKind} {s d : TypeId} {ds : TypeDesc} {x r : AV} {H H' : Heap} {n n' : Nat} {ρ : Rho} {x' : Value} (h : ci k x H n = some (r, H', n')) (hx : VRel ρ x x') (hs : P.underlying s = some ds) (hd : P.underlying d = some (.int k)) (w : World) :
    H' = H ∧ n' = n ∧ ∃ v, (convert s d x').run P w = .ok v w ∧ VRel ρ r v := by
  unfold ci at h
  split at h
  · rename_i j m
    obtain ⟨rfl, rfl, rfl⟩ := ret_some h
    cases hx
    refine ⟨rfl, rfl, .int k (k.wrap m), ?_, by rw [wr_eq]; exact .int _ _⟩
    simp [convert, run_underlying hs, run_underlying hd, Conv.intToInt]
  · exact (fail_some h).elim
theorem bytes_get {s : ByteArray} {i : Nat} {b : UInt8} (h : s.data.toList[i]? = some b) : s[i]? = some b := by
  rw [Array.getElem?_toList] at h
  rw [getElem?_def]
  have hi : i < s.data.size := (Array.getElem?_eq_some_iff.1 h).1
  have : i < s.size := hi
  rw [dif_pos this]
  have := (Array.getElem?_eq_some_iff.1 h).2
  rw [← this]; rfl
theorem ixs_sound {P : Program} {t : TypeId} {x i r : AV} {H H' : Heap} {n n' : Nat} {ρ : Rho} {x' i' : Value} (h : ixs x i H n = some (r, H', n')) (hx : VRel ρ x x') (hi : VRel ρ i i') (ht : P.underlying t = some .string) (w : World) :
    H' = H ∧ n' = n ∧ ∃ v, (Instr.index t x' i').run P w = .ok v w ∧ VRel ρ r v := by
  unfold ixs at h
  split at h
  · rename_i s k m
    cases hx with
    | str s =>
    cases hi
    cases hb : s.data.toList[m]? with
    | some b =>
      simp only [hb] at h
      obtain ⟨rfl, rfl, rfl⟩ := ret_some h
      refine ⟨rfl, rfl, .int .u8 b.toNat, ?_, .int _ _⟩
      have hb' := bytes_get hb
      simp [Instr.index, asIntOf, run_underlying ht, hb']
    | none => simp only [hb] at h; exact (fail_some h).elim
  · exact (fail_some h).elim
theorem ixa_sound {P : Program} {t e : TypeId} {len : Nat} {x i r : AV} {H H' : Heap} {n n' : Nat} {ρ : Rho} {x' i' : Value} (h : ixa len x i H n = some (r, H', n')) (hx : VRel ρ x x') (hi : VRel ρ i i') (ht : P.underlying t = some (.array len e))
    (hz : tySz P e = 1) (ha : tyAgg P e = false) (hu : (P.underlying e).isSome = true) (w : World) : H' = H ∧ n' = n ∧ ∃ v, (Instr.index t x' i').run P w = .ok v w ∧ VRel ρ r v := by
  unfold ixa at h
  split at h
  · rename_i cs k m
    cases hx with
    | agg _ c hc =>
    cases hi
    obtain ⟨hl, h0⟩ := cond_some h
    clear h
    rw [beq_eq, decide_eq_true_eq] at hl
    obtain ⟨h1, rfl, rfl⟩ := ofO_some h0
    obtain ⟨v, e1, k1⟩ := hc.get m r h1
    rw [Array.getElem?_toList] at e1
    have hm : m < len := by
      have := hc.length
      have h2 := (List.getElem?_eq_some_iff.1 h1).1
      omega
    obtain ⟨i1, hi1, hs1⟩ := tySz_info (P := P) (t := e) (by omega)
    refine ⟨rfl, rfl, v, ?_, k1⟩
    have hp := run_part1 (P := P) hu ha e1 w
    simp [Instr.index, asIntOf, run_underlying ht, run_sizeOf hi1, hs1, hz, hm, hp]
  · exact (fail_some h).elim
theorem natOf_some {x : AV} {m : Nat} (h : natOf x = some m) : ∃ k, x = .int k m := by
  unfold natOf at h
  split at h
  · cases h; exact ⟨_, rfl⟩
  · cases h
/-- Bounds, as values. -/
inductive ORelO (ρ : Rho) : Option AV → Option Value → Prop
  | none : ORelO ρ none none
  | some (a : AV) (v : Value) : VRel ρ a v → ORelO ρ (some a) (some v)
theorem lohi_sound {P : Program} {len top cap : Nat} {lo hi : Option AV} {l u : Nat} (h : lohi len top lo hi = some (l, u)) {ρ : Rho} {lo' hi' : Option Value} (hl : ORelO ρ lo lo') (hh : ORelO ρ hi hi') (ht : top ≤ cap) (_ : len ≤ top) (b : Bool) (w : World) :
    l ≤ u ∧ u ≤ top ∧ (Instr.sliceBounds b len cap lo' hi' none).run P w = .ok (l, u, cap) w := by
  unfold lohi at h
  split at h
  · rename_i h' l' e1 e2
    rw [ble_eq, ble_eq] at h
    by_cases c1 : h' ≤ top
    · by_cases c2 : l' ≤ h'
      · simp only [c1, c2, decide_true, cond_true, Option.some.injEq, Prod.mk.injEq] at h
        obtain ⟨rfl, rfl⟩ := h
        refine ⟨c2, c1, ?_⟩
        cases hh with
        | none =>
          simp only [Option.some.injEq] at e1
          subst e1
          cases hl with
          | none => simp only [Option.some.injEq] at e2; subst e2; simp [Instr.sliceBounds]
          | some a v hv =>
            obtain ⟨k, rfl⟩ := natOf_some e2
            cases hv
            simp [Instr.sliceBounds, Instr.sliceBound, asIntOf, c2]
        | some a v hv =>
          obtain ⟨k, rfl⟩ := natOf_some e1
          cases hv
          have c3 : h' ≤ cap := by omega
          cases hl with
          | none => simp only [Option.some.injEq] at e2; subst e2; simp [Instr.sliceBounds, Instr.sliceBound, asIntOf, c3]
          | some a v hv =>
            obtain ⟨k, rfl⟩ := natOf_some e2
            cases hv
            simp [Instr.sliceBounds, Instr.sliceBound, asIntOf, c2, c3]
      · simp [c1, c2] at h
    · simp [c1] at h
  · cases h
theorem extract_list (s : ByteArray) (l h : Nat) : (s.extract l h).data.toList = (s.data.toList.drop l).take (h - l) := by
  rw [ByteArray.data_extract, Array.toList_extract, List.extract_eq_take_drop]
theorem ss_sound {P : Program} {t : TypeId} {x r : AV} {lo hi : Option AV} {H H' : Heap} {n n' : Nat} {ρ : Rho} {x' : Value} {lo' hi' : Option Value} (h : ss x lo hi H n = some (r, H', n')) (hx : VRel ρ x x') (hl : ORelO ρ lo lo') (hh : ORelO ρ hi hi')
    (ht : P.underlying t = some .string) (w : World) : H' = H ∧ n' = n ∧ ∃ v, (Instr.sliceAt t x' lo' hi' none).run P w = .ok v w ∧ VRel ρ r v := by
  unfold ss at h
  split at h
  · rename_i s
    cases e : lohi s.length s.length lo hi with
    | some p =>
      obtain ⟨l, u⟩ := p
      simp only [e] at h
      obtain ⟨rfl, rfl, rfl⟩ := ret_some h
      cases hx with
      | str s =>
      have hsz : s.data.toList.length = s.size := by rw [Array.length_toList]; rfl
      rw [hsz] at e
      obtain ⟨_, _, hb⟩ := lohi_sound (P := P) e hl hh (Nat.le_refl s.size) (Nat.le_refl _) false w
      refine ⟨rfl, rfl, .string (s.extract l u), ?_, ?_⟩
      · rw [run_sliceAt_string w t _ _ _ _ ht]
        simp [Instr.slice, run_underlying ht, hb]
      · rw [← extract_list]; exact .str _
    | none => simp only [e] at h; exact (fail_some h).elim
  · exact (fail_some h).elim
theorem sls_sound {P : Program} {t e : TypeId} {x r : AV} {lo hi : Option AV} {H H' : Heap} {n n' : Nat} {ρ : Rho} {x' : Value} {lo' hi' : Option Value} (h : sls (tySz P e) x lo hi H n = some (r, H', n')) (hx : VRel ρ x x') (hl : ORelO ρ lo lo') (hh : ORelO ρ hi hi')
    (ht : P.underlying t = some (.slice e)) (he : ∃ i, P.info? e = some i) (w : World) :
    H' = H ∧ n' = n ∧ ∃ v, (Instr.sliceAt t x' lo' hi' none).run P w = .ok v w ∧ VRel ρ r v := by
  obtain ⟨inf, hi1⟩ := he
  have hs1 : inf.size = tySz P e := by simp [tySz, hi1]
  have hse : P.elem t = e := by simp [Program.elem, ht]
  have hrun : ∀ (a : Option Addr) (len cap l u : Nat), (Instr.sliceBounds true len cap lo' hi' none).run P w = .ok (l, u, cap) w →
      (Instr.sliceAt t (.slice a len cap) lo' hi' none).run P w = .ok (.slice (if cap = l then a else a.map (·.add (l * tySz P e))) (u - l) (cap - l)) w := by
    intro a len cap l u hb
    rw [run_sliceAt_slice w t _ _ _ _ (by rw [hse]; exact ht)]
    simp [Instr.slice, run_underlying ht, hb, run_sizeOf hi1, hs1]
  unfold sls at h
  split at h
  · cases e2 : lohi 0 0 lo hi with
    | some p =>
      obtain ⟨l, u⟩ := p
      simp only [e2] at h
      obtain ⟨rfl, rfl, rfl⟩ := ret_some h
      cases hx
      obtain ⟨c1, c2, hb⟩ := lohi_sound (P := P) e2 hl hh (Nat.le_refl 0) (Nat.le_refl _) true w
      have : l = 0 := by omega
      subst this
      have : u = 0 := by omega
      subst this
      exact ⟨rfl, rfl, _, hrun none 0 0 0 0 hb, by simpa using VRel.slN⟩
    | none => simp only [e2] at h; exact (fail_some h).elim
  · rename_i i o len kc z'
    cases e1 : lohi len kc lo hi with
    | some p =>
      obtain ⟨l, u⟩ := p
      simp only [e1] at h
      obtain ⟨hz, h2⟩ := cond_some h
      clear h
      rw [beq_eq, decide_eq_true_eq] at hz
      subst hz
      obtain ⟨rfl, rfl, rfl⟩ := ret_some h2
      cases hx with
      | sl _ _ _ _ _ cap g hg h1 h2 h3 =>
        obtain ⟨c1, c2, hb⟩ := lohi_sound (P := P) e1 hl hh h2 h1 true w
        refine ⟨rfl, rfl, _, hrun _ len cap l u hb, ?_⟩
        by_cases hcl : cap = l
        · have : u - l = 0 := by omega
          have hk : kc - l = 0 := by omega
          rw [if_pos hcl, this, hk, show cap - l = 0 from by omega]
          exact .slE _ _ _ _ g hg
        · rw [if_neg hcl]
          have ha : (Option.map (·.add (l * tySz P e)) (some (⟨g.b, g.base + o, none⟩ : Addr))) = some ⟨g.b, g.base + (o + l * tySz P e), none⟩ := by
            simp only [Option.map_some, Addr.add_lit]; rw [Nat.add_assoc]
          rw [ha]
          refine .sl _ _ _ _ _ _ g hg (by omega) (by omega) (fun hr => ?_)
          have h3' := h3 hr
          have : l * tySz P e + (cap - l) * tySz P e = cap * tySz P e := by rw [← Nat.add_mul]; congr 1; omega
          omega
      | slE _ _ _ a g hg =>
        obtain ⟨c1, c2, hb⟩ := lohi_sound (P := P) e1 hl hh (Nat.le_refl 0) (Nat.le_refl _) true w
        have : l = 0 := by omega
        subst this
        have : u = 0 := by omega
        subst this
        refine ⟨rfl, rfl, _, hrun (some a) 0 0 0 0 hb, ?_⟩
        simp only [if_true, Nat.zero_mul, Nat.add_zero, Nat.sub_self]
        exact .slE _ _ _ _ g hg
    | none => simp only [e1] at h; exact (fail_some h).elim
  · exact (fail_some h).elim
end Go.Dn

/- Soundness, 6: addresses; reading memory. -/
namespace Go.Dn
open M Go.RowKit

theorem ixp_sound {P : Program} {t e : TypeId} {x i r : AV} {H H' : Heap} {n n' : Nat} {ρ : Rho} {x' i' : Value} (h : ixp (tySz P e) x i H n = some (r, H', n')) (hx : VRel ρ x x') (hi : VRel ρ i i') (ht : P.underlying t = some (.slice e)) (he : ∃ f, P.info? e = some f) (w : World) :
    H' = H ∧ n' = n ∧ ∃ v, (Instr.indexAt t x' i').run P w = .ok v w ∧ VRel ρ r v := by
  unfold ixp at h
  split at h
  · rename_i j o len kc z k m
    obtain ⟨hm, h2⟩ := cond_some h
    clear h
    rw [blt_eq, decide_eq_true_eq] at hm
    obtain ⟨rfl, rfl, rfl⟩ := ret_some h2
    obtain ⟨f, hf⟩ := he
    have hs : f.size = tySz P e := by simp [tySz, hf]
    cases hi
    cases hx with
    | sl _ _ _ _ _ cap g hg h1 h2 h3 =>
      refine ⟨rfl, rfl, .pointer (some ⟨g.b, g.base + (o + m * tySz P e), none⟩), ?_, .ptr _ _ g hg⟩
      simp [Instr.indexAt, asIntOf, run_underlying ht, run_sizeOf hf, hs, hm, Addr.add_lit]
      omega
    | slE _ _ _ a g hg => omega
  · exact (fail_some h).elim
theorem ixpa_sound {P : Program} {t e : TypeId} {len : Nat} {x i r : AV} {H H' : Heap} {n n' : Nat} {ρ : Rho} {x' i' : Value} (h : ixpa (tySz P e) len x i H n = some (r, H', n')) (hx : VRel ρ x x') (hi : VRel ρ i i') (ht : P.underlying t = some (.array len e)) (he : ∃ f, P.info? e = some f) (w : World) :
    H' = H ∧ n' = n ∧ ∃ v, (Instr.indexAt t x' i').run P w = .ok v w ∧ VRel ρ r v := by
  unfold ixpa at h
  split at h
  · rename_i j o k m
    obtain ⟨hm, h2⟩ := cond_some h
    clear h
    rw [blt_eq, decide_eq_true_eq] at hm
    obtain ⟨rfl, rfl, rfl⟩ := ret_some h2
    obtain ⟨f, hf⟩ := he
    have hs : f.size = tySz P e := by simp [tySz, hf]
    cases hi
    cases hx with
    | ptr _ _ g hg =>
      refine ⟨rfl, rfl, .pointer (some ⟨g.b, g.base + (o + m * tySz P e), none⟩), ?_, .ptr _ _ g hg⟩
      simp [Instr.indexAt, asIntOf, run_underlying ht, run_sizeOf hf, hs, hm, Addr.add_lit, Instr.sureAddr]
      omega
  · exact (fail_some h).elim
theorem fa_sound {P : Program} {s : TypeId} {fs : Array Field} {f : Field} {k : Nat} {x r : AV} {H H' : Heap} {n n' : Nat} {ρ : Rho} {x' : Value} (h : fa x f.offset H n = some (r, H', n')) (hx : VRel ρ x x') (ht : P.underlying s = some (.struct fs)) (hk : fs[k]? = some f)
    (hz : tySz P f.type ≠ 0) (w : World) : H' = H ∧ n' = n ∧ ∃ v, (Instr.fieldAt s x' k).run P w = .ok v w ∧ VRel ρ r v := by
  unfold fa at h
  split at h
  · rename_i i p
    obtain ⟨rfl, rfl, rfl⟩ := ret_some h
    obtain ⟨inf, hf, hs⟩ := tySz_info hz
    cases hx with
    | ptr _ _ g hg =>
      refine ⟨rfl, rfl, .pointer (some ⟨g.b, g.base + (p + f.offset), none⟩), ?_, .ptr _ _ g hg⟩
      simp [Instr.fieldAt, run_underlying ht, hk, Instr.sureAddr, fieldPlace, run_sizeOf hf, hs, hz, Addr.add_lit]
      omega
  · exact (fail_some h).elim
theorem fi_sound {P : Program} {t : TypeId} {fs : Array Field} {f : Field} {k : Nat} {x r : AV} {H H' : Heap} {n n' : Nat} {ρ : Rho} {x' : Value} (h : fi x f.offset H n = some (r, H', n')) (hx : VRel ρ x x') (ht : P.underlying t = some (.struct fs)) (hk : fs[k]? = some f)
    (ha : tyAgg P f.type = false) (hu : (P.underlying f.type).isSome = true) (w : World) : H' = H ∧ n' = n ∧ ∃ v, (Instr.field t x' k).run P w = .ok v w ∧ VRel ρ r v := by
  unfold fi at h
  split at h
  · obtain ⟨h1, rfl, rfl⟩ := ofO_some h
    cases hx with
    | agg _ c hc =>
      obtain ⟨v, e1, k1⟩ := hc.get _ _ h1
      rw [Array.getElem?_toList] at e1
      refine ⟨rfl, rfl, v, ?_, k1⟩
      simp [Instr.field, run_underlying ht, hk, asAgg, run_part1 hu ha e1]
  · exact (fail_some h).elim
theorem extract_toList {α : Type} (c : Array α) (o z : Nat) : (c.extract o (o + z)).toList = (c.toList.drop o).take z := by
  rw [Array.toList_extract, List.extract_eq_take_drop]; congr 1; omega
theorem fia_sound {P : Program} {t : TypeId} {fs : Array Field} {f : Field} {k : Nat} {x r : AV} {H H' : Heap} {n n' : Nat} {ρ : Rho} {x' : Value} (h : fia x f.offset (tySz P f.type) H n = some (r, H', n')) (hx : VRel ρ x x') (ht : P.underlying t = some (.struct fs)) (hk : fs[k]? = some f)
    (ha : tyAgg P f.type = true) (he : ∃ i, P.info? f.type = some i) (w : World) : H' = H ∧ n' = n ∧ ∃ v, (Instr.field t x' k).run P w = .ok v w ∧ VRel ρ r v := by
  unfold fia at h
  split at h
  · obtain ⟨h1, h2⟩ := cond_some h
    clear h
    obtain ⟨rfl, rfl, rfl⟩ := ret_some h2
    obtain ⟨inf, hf⟩ := he
    have hs : inf.size = tySz P f.type := by simp [tySz, hf]
    have hu : (P.underlying f.type).isSome = true := by
      unfold tyAgg tyU at ha
      cases e : P.underlying f.type with
      | none => rw [e] at ha; simp at ha
      | some _ => rfl
    cases hx with
    | agg _ c hc =>
      refine ⟨rfl, rfl, .agg (c.extract f.offset (f.offset + tySz P f.type)), ?_, .agg _ _ ?_⟩
      · simp [Instr.field, run_underlying ht, hk, asAgg, part, tyAgg_eq hu, ha, run_sizeOf hf, hs]
      · rw [extract_toList]
        exact (hc.drop _).take _
  · exact (fail_some h).elim
theorem nck_sound {P : Program} {x r : AV} {H H' : Heap} {n n' : Nat} {ρ : Rho} {x' : Value} (h : nck x H n = some (r, H', n')) (hx : VRel ρ x x') (o : Oper) (y : Operand) (ho : o.op = .nilCheck y) (ev' : Operand → Value) (hy : ev' y = x') (w : World) :
    H' = H ∧ n' = n ∧ ∃ v, (execOp ev' o).run P w = .ok (.value v) w ∧ VRel ρ r v := by
  unfold nck at h
  split at h
  · obtain ⟨rfl, rfl, rfl⟩ := ret_some h
    cases hx with
    | ptr _ _ g hg => exact ⟨rfl, rfl, _, by simp [execOp, ho, hy], .ptr _ _ g hg⟩
  · obtain ⟨rfl, rfl, rfl⟩ := ret_some h
    cases hx with
    | func f a b c d h1 h2 => exact ⟨rfl, rfl, _, by simp [execOp, ho, hy], .func _ _ _ _ _ h1 h2⟩
  · exact (fail_some h).elim

/-! ### Reading -/
theorem getO_some {i : Nat} {o : AObj} {H H' : Heap} {n n' : Nat} (h : getO i H n = some (o, H', n')) : H.get i = some o ∧ H = H' ∧ n = n' := by
  unfold getO at h
  split at h
  · simp only [Option.some.injEq, Prod.mk.injEq] at h; obtain ⟨rfl, rfl, rfl⟩ := h; exact ⟨‹_›, rfl, rfl⟩
  · cases h
/-- A row's cells, in the world. -/
theorem Sim.row {ρ : Rho} {H : Heap} {w : World} (hs : Sim ρ H w) {i : Nat} {cs : List AV} {e : TypeId} {rw' : Rw} (hi : H.get i = some (.row cs e rw')) {g : G} (hg : ρ i = some g) :
    ORel ρ w (.row cs e rw') g := by
  obtain ⟨g', a, b⟩ := hs.obj i _ hi rfl
  rw [hg] at a; cases a; exact b
theorem Sim.cell {ρ : Rho} {H : Heap} {w : World} (hs : Sim ρ H w) {i : Nat} {cs : List AV} {e : TypeId} {rw' : Rw} (hi : H.get i = some (.row cs e rw')) {g : G} (hg : ρ i = some g) {o : Nat} {a : AV} (ho : cs[o]? = some a) :
    ∃ v, w.cell? ⟨g.b, g.base + o, none⟩ = some v ∧ VRel ρ a v := by
  obtain ⟨c, e', fz, h1, h2, h3, h4, h5, h6⟩ := hs.row hi hg
  obtain ⟨v, hv, hr⟩ := h4 o a ho
  exact ⟨v, by simp [World.cell?, h1, hv], hr⟩
theorem ld_sound {P : Program} {t : TypeId} {x r : AV} {H H' : Heap} {n n' : Nat} {ρ : Rho} {x' : Value} {w : World} (hs : Sim ρ H w) (h : ld x H n = some (r, H', n')) (hx : VRel ρ x x') (ha : tyAgg P t = false) (hu : (P.underlying t).isSome = true) :
    H' = H ∧ n' = n ∧ ∃ v, (Instr.loadAt t x').run P w = .ok v w ∧ VRel ρ r v := by
  unfold ld at h
  split at h
  · rename_i i o
    obtain ⟨ob, H1, n1, h1, h2⟩ := bd_some h
    obtain ⟨h3, rfl, rfl⟩ := getO_some h1
    cases hx with
    | ptr _ _ g hg =>
    split at h2
    · rename_i cs e rw'
      obtain ⟨h4, rfl, rfl⟩ := ofO_some h2
      obtain ⟨v, hv, hr⟩ := hs.cell h3 hg h4
      refine ⟨rfl, rfl, v, ?_, hr⟩
      simp [Instr.loadAt, Instr.sureAddr, loadVar, tyAgg_eq hu, ha, hv]
    · exact (fail_some h2).elim
  · exact (fail_some h).elim
theorem rd_some {i o z : Nat} {cs : List AV} {H H' : Heap} {n n' : Nat} (h : rd i o z H n = some (cs, H', n')) : H' = H ∧ n' = n ∧ ∃ l e b, H.get i = some (.row l e b) ∧ o + z ≤ l.length ∧ cs = (l.drop o).take z := by
  unfold rd at h
  obtain ⟨ob, H1, n1, h1, h2⟩ := bd_some h
  obtain ⟨h3, rfl, rfl⟩ := getO_some h1
  split at h2
  · rename_i l e b
    obtain ⟨h4, h5⟩ := cond_some h2
    obtain ⟨rfl, rfl, rfl⟩ := ret_some h5
    rw [ble_eq, decide_eq_true_eq] at h4
    exact ⟨rfl, rfl, l, e, b, h3, h4, rfl⟩
  · exact (fail_some h2).elim
/-- The world's cells where a row's are read. -/
theorem Sim.cells {ρ : Rho} {H : Heap} {w : World} (hs : Sim ρ H w) {i o z : Nat} {l : List AV} {e : TypeId} {b : Rw} (hi : H.get i = some (.row l e b)) {g : G} (hg : ρ i = some g) (hz : o + z ≤ l.length) :
    ∃ vs : List Value, vs.length = z ∧ (∀ j v, vs[j]? = some v → w.cell? ((⟨g.b, g.base + o, none⟩ : Addr).add j) = some v) ∧ VRels ρ ((l.drop o).take z) vs := by
  obtain ⟨c, e', fz, h1, h2, h3, h4, h5, h6⟩ := hs.row hi hg
  refine ⟨(c.toList.drop (g.base + o)).take z, by simp; omega, ?_, ?_⟩
  · intro j v hj
    rw [List.getElem?_take] at hj
    split at hj
    · rw [List.getElem?_drop, Array.getElem?_toList] at hj
      simp [Addr.add_lit, World.cell?, h1, hj]
    · cases hj
  · refine VRels.of_get (by simp; omega) ?_
    intro j a v ha hv
    rw [List.getElem?_take] at ha hv
    split at ha
    · rw [if_pos ‹_›, List.getElem?_drop, Array.getElem?_toList] at hv
      rw [List.getElem?_drop] at ha
      obtain ⟨v', e1, e2⟩ := h4 _ _ ha
      rw [← Nat.add_assoc, hv] at e1
      cases e1; exact e2
    · cases ha
theorem lda_sound {P : Program} {t : TypeId} {x r : AV} {H H' : Heap} {n n' : Nat} {ρ : Rho} {x' : Value} {w : World} (hs : Sim ρ H w) (h : lda (tySz P t) x H n = some (r, H', n')) (hx : VRel ρ x x') (ha : tyAgg P t = true) (he : ∃ i, P.info? t = some i) (hu : (P.underlying t).isSome = true) :
    H' = H ∧ n' = n ∧ ∃ v, (Instr.loadAt t x').run P w = .ok v w ∧ VRel ρ r v := by
  unfold lda at h
  split at h
  · rename_i i o
    obtain ⟨cs, H1, n1, h1, h2⟩ := bd_some h
    obtain ⟨rfl, rfl, rfl⟩ := ret_some h2
    obtain ⟨rfl, rfl, l, e, b, h3, h4, rfl⟩ := rd_some h1
    cases hx with
    | ptr _ _ g hg =>
    obtain ⟨vs, e1, e2, e3⟩ := hs.cells h3 hg h4
    obtain ⟨inf, hf⟩ := he
    have hsz : inf.size = tySz P t := by simp [tySz, hf]
    refine ⟨rfl, rfl, .agg vs.toArray, ?_, .agg _ _ (by simpa using e3)⟩
    have hl := run_loadCells_list (P := P) w ⟨g.b, g.base + o, none⟩ vs e2
    rw [e1] at hl
    simp [Instr.loadAt, Instr.sureAddr, loadVar, tyAgg_eq hu, ha, run_sizeOf hf, hsz, hl]
  · exact (fail_some h).elim
end Go.Dn
