/- Letters that tell what they stand for: numbers, texts, slices and pointers made of two texts, their lengths and their digits. -/
import Derived.Test.YtbmdocjeepnhmaaGreatDoorExB3
import Derived.Test.YtbmdocjeepnhmaaGreatDoorExB5
import Derived.Test.YtbmdocjeepnhmaaGreatDoorExB6
set_option linter.unusedVariables false
set_option linter.unusedSimpArgs false
set_option linter.unusedSectionVars false
namespace Go.Ev
open Go Go.RowKit
/-- c + a n0 + b n1 + s t0 + t t1: n: the lengths of the texts, t: how many digits these have. -/
structure Lin where
 c : Int
 a : Int
 b : Int
 s : Int
 t : Int
def Lin.k (n : Int) : Lin := ⟨n, 0, 0, 0, 0⟩
def Lin.add (x y : Lin) : Lin := ⟨x.c + y.c, x.a + y.a, x.b + y.b, x.s + y.s, x.t + y.t⟩
def Lin.sub (x y : Lin) : Lin := ⟨x.c - y.c, x.a - y.a, x.b - y.b, x.s - y.s, x.t - y.t⟩
def eqI : Int → Int → Bool
 | .ofNat m, .ofNat n => Nat.beq m n
 | .negSucc m, .negSucc n => Nat.beq m n
 | _, _ => false
def Lin.eq (x y : Lin) : Bool := eqI x.c y.c && eqI x.a y.a && eqI x.b y.b && eqI x.s y.s && eqI x.t y.t
def Lin.const (x : Lin) : Bool := eqI x.a 0 && eqI x.b 0 && eqI x.s 0 && eqI x.t 0
/-- Bounds of the lengths, and of their sum; digits are 1 to 4. -/
structure Kd where
 la : Nat
 ha : Nat
 lb : Nat
 hb : Nat
 ls : Nat
 hs : Nat
def mulLo (k : Int) (l h : Nat) : Int := match k with
 | .ofNat m => .ofNat (m * l)
 | .negSucc m => - .ofNat ((m + 1) * h)
def mulHi (k : Int) (l h : Nat) : Int := match k with
 | .ofNat m => .ofNat (m * h)
 | .negSucc m => - .ofNat ((m + 1) * l)
def Lin.lo (K : Kd) (x : Lin) : Int := x.c + (bif eqI x.a x.b then mulLo x.a K.ls K.hs else mulLo x.a K.la K.ha + mulLo x.b K.lb K.hb) + mulLo x.s 1 4 + mulLo x.t 1 4
def Lin.hi (K : Kd) (x : Lin) : Int := x.c + (bif eqI x.a x.b then mulHi x.a K.ls K.hs else mulHi x.a K.la K.ha + mulHi x.b K.lb K.hb) + mulHi x.s 1 4 + mulHi x.t 1 4
def geI : Int → Int → Bool
 | .ofNat m, .ofNat n => Nat.ble n m
 | .negSucc m, .negSucc n => Nat.ble m n
 | .ofNat _, .negSucc _ => true
 | .negSucc _, .ofNat _ => false
/-- Surely at least, at most. -/
def Lin.ge (K : Kd) (x : Lin) (n : Int) : Bool := geI (x.lo K) n
def Lin.le (K : Kd) (x : Lin) (n : Int) : Bool := geI n (x.hi K)
/-- Numbers that are not negative: a sum; a linear one; the smaller of c and l; the smaller of d and l less the smaller of c and l. -/
inductive Va where
 | crc (i : Nat)
 | lin (l : Lin)
 | mn (c : Nat) (l : Lin)
 | md (c d : Nat) (l : Lin)
/-- Bytes: one; a text; a length's digits; noughts; one that is a number; a number's byte. -/
inductive Sym where
 | by (n : Nat)
 | txt (d : Nat)
 | dig (d : Nat)
 | zer (l : Lin)
 | lin (l : Lin)
 | bt (v : Va) (j : Nat)
/-- Numbers; texts; slices (un: the capacity is not known; ex: known); pointers; empty ends; a number less its last bytes; one byte of it; less its last bytes, and a byte 0 behind;
 a part of a slice of l bytes from the smaller of c and l to the smaller of d and l; a slice of n and these; the length. -/
inductive Lt where
 | num (k : IntKind) (l : Lin)
 | str (l : List Sym)
 | sl (k : Nat) (o n j : Lin)
 | sle (k : Nat) (o n c : Lin)
 | ptr (k : Nat) (o : Lin)
 | stl (k : Nat) (o : Lin) (z : Nat) (a j : Lin)
 | val (k : IntKind) (v : Va) (j : Nat)
 | byt (k : IntKind) (v : Va) (j : Nat)
 | crs (v : Va) (j : Nat)
 | slp (k c d : Nat) (l : Lin)
 | slq (k n c d : Nat) (l : Lin)
 | plc (n c d : Nat) (l : Lin)
def eqK : IntKind → IntKind → Bool
 | .i8, .i8 | .i16, .i16 | .i32, .i32 | .i64, .i64 | .u8, .u8 | .u16, .u16 | .u32, .u32 | .u64, .u64 => true
 | _, _ => false
def Va.eq : Va → Va → Bool
 | .crc i, .crc j => Nat.beq i j
 | .lin l, .lin m => l.eq m
 | .mn c l, .mn c' l' => Nat.beq c c' && l.eq l'
 | .md c d l, .md c' d' l' => Nat.beq c c' && Nat.beq d d' && l.eq l'
 | _, _ => false
def Sym.eq : Sym → Sym → Bool
 | .by m, .by n => Nat.beq m n
 | .txt m, .txt n => Nat.beq m n
 | .dig m, .dig n => Nat.beq m n
 | .zer l, .zer m => l.eq m
 | .lin l, .lin m => l.eq m
 | .bt v j, .bt v' j' => v.eq v' && Nat.beq j j'
 | _, _ => false
def eqS : List Sym → List Sym → Bool
 | [], [] => true
 | a :: l, b :: m => bif a.eq b then eqS l m else false
 | _, _ => false
def Lt.eq : Lt → Lt → Bool
 | .num k l, .num k' l' => eqK k k' && l.eq l'
 | .str l, .str m => eqS l m
 | .sl k o n j, .sl k' o' n' j' => Nat.beq k k' && o.eq o' && n.eq n' && j.eq j'
 | .sle k o n j, .sle k' o' n' j' => Nat.beq k k' && o.eq o' && n.eq n' && j.eq j'
 | .ptr k o, .ptr k' o' => Nat.beq k k' && o.eq o'
 | .stl k o z a j, .stl k' o' z' a' j' => Nat.beq k k' && o.eq o' && Nat.beq z z' && a.eq a' && j.eq j'
 | .val k v j, .val k' v' j' => eqK k k' && v.eq v' && Nat.beq j j'
 | .byt k v j, .byt k' v' j' => eqK k k' && v.eq v' && Nat.beq j j'
 | .crs v j, .crs v' j' => v.eq v' && Nat.beq j j'
 | .slp k c d l, .slp k' c' d' l' => Nat.beq k k' && Nat.beq c c' && Nat.beq d d' && l.eq l'
 | .slq k n c d l, .slq k' n' c' d' l' => Nat.beq k k' && Nat.beq n n' && Nat.beq c c' && Nat.beq d d' && l.eq l'
 | .plc n c d l, .plc n' c' d' l' => Nat.beq n n' && Nat.beq c c' && Nat.beq d d' && l.eq l'
 | _, _ => false
/-! ### As numbers -/
abbrev W64 : Nat := 1208925819614629174706176
def encL : List Nat → Nat
 | [] => 1
 | a :: l => encL l * W64 + a
def decN : Nat → Nat → List Nat
 | 0, _ => []
 | f + 1, c => bif Nat.ble c 1 then [] else (c % W64) :: decN f (c / W64)
def offI (n : Int) (b : Nat) : Nat := (n + Int.ofNat b).toNat
def encLin (x : Lin) : Nat := offI x.c 32768 + 65536 * (offI x.a 16 + 32 * (offI x.b 16 + 32 * (offI x.s 16 + 32 * offI x.t 16)))
def unI (n b : Nat) : Int := bif Nat.ble b n then Int.ofNat (n - b) else - Int.ofNat (b - n)
def decLin (q : Nat) : Lin := ⟨unI (q % 65536) 32768, unI (q / 65536 % 32) 16, unI (q / 2097152 % 32) 16, unI (q / 67108864 % 32) 16, unI (q / 2147483648 % 32) 16⟩
def encVa : Va → Nat
 | .crc i => 4 * i
 | .lin l => 1 + 4 * encLin l
 | .mn c l => 2 + 4 * (c + 4096 * encLin l)
 | .md c d l => 3 + 4 * (c + 4096 * (d + 4096 * encLin l))
def decVa (q : Nat) : Va := match q % 4, q / 4 with
 | 0, i => .crc i
 | 1, l => .lin (decLin l)
 | 2, p => .mn (p % 4096) (decLin (p / 4096))
 | _, p => .md (p % 4096) (p / 4096 % 4096) (decLin (p / 16777216))
def encSym : Sym → Nat
 | .by n => n
 | .txt d => 256 + 8 * d
 | .dig d => 257 + 8 * d
 | .zer l => 258 + 8 * encLin l
 | .lin l => 259 + 8 * encLin l
 | .bt v j => 260 + 8 * (encVa v * 8 + j)
def decSym (q : Nat) : Sym := bif Nat.blt q 256 then .by q else (match (q - 256) % 8, (q - 256) / 8 with
 | 0, d => .txt d
 | 1, d => .dig d
 | 2, l => .zer (decLin l)
 | 3, l => .lin (decLin l)
 | _, p => .bt (decVa (p / 8)) (p % 8))
def encK : IntKind → Nat
 | .i8 => 0 | .i16 => 1 | .i32 => 2 | .i64 => 3 | .u8 => 4 | .u16 => 5 | .u32 => 6 | .u64 => 7
def decK : Nat → IntKind
 | 0 => .i8 | 1 => .i16 | 2 => .i32 | 3 => .i64 | 4 => .u8 | 5 => .u16 | 6 => .u32 | _ => .u64
def fieldsOf : Lt → List Nat
 | .num k l => [0, encK k, encLin l]
 | .str l => 1 :: l.map encSym
 | .sl k o n j => [2, k, encLin o, encLin n, encLin j]
 | .sle k o n j => [3, k, encLin o, encLin n, encLin j]
 | .ptr k o => [4, k, encLin o]
 | .stl k o z a j => [5, k, encLin o, z, encLin a, encLin j]
 | .val k v j => [6, encK k, encVa v, j]
 | .byt k v j => [7, encK k, encVa v, j]
 | .crs v j => [8, encVa v, j]
 | .slp k c d l => [9, k, c, d, encLin l]
 | .slq k n c d l => [10, k, n, c, d, encLin l]
 | .plc n c d l => [11, n, c, d, encLin l]
def ofFields : List Nat → Option Lt
 | 0 :: k :: l :: _ => some (.num (decK k) (decLin l))
 | 1 :: l => some (.str (l.map decSym))
 | 2 :: k :: o :: n :: j :: _ => some (.sl k (decLin o) (decLin n) (decLin j))
 | 3 :: k :: o :: n :: j :: _ => some (.sle k (decLin o) (decLin n) (decLin j))
 | 4 :: k :: o :: _ => some (.ptr k (decLin o))
 | 5 :: k :: o :: z :: a :: j :: _ => some (.stl k (decLin o) z (decLin a) (decLin j))
 | 6 :: k :: v :: j :: _ => some (.val (decK k) (decVa v) j)
 | 7 :: k :: v :: j :: _ => some (.byt (decK k) (decVa v) j)
 | 8 :: v :: j :: _ => some (.crs (decVa v) j)
 | 9 :: k :: c :: d :: l :: _ => some (.slp k c d (decLin l))
 | 10 :: k :: n :: c :: d :: l :: _ => some (.slq k n c d (decLin l))
 | 11 :: n :: c :: d :: l :: _ => some (.plc n c d (decLin l))
 | _ => none
def decLt (c : Nat) : Option Lt := ofFields (decN 4096 c)
/-- A letter, if it tells that very thing. -/
def pickL (t : Lt) (i : Nat) : Option A1 := match decLt i with
 | some u => bif u.eq t then some (.y i) else none
 | none => none
def letter (t : Lt) : Option A1 := fN (encL (fieldsOf t)) (pickL t)
/-! ### Values -/
/-- n noughts, and more. -/
def zRun (n : Nat) (l : List Sym) : List Sym := bif Nat.ble 8 n then .zer (.k n) :: l else List.replicate n (.by 0) ++ l
/-- Bytes; many noughts are one. -/
def byL : List Nat → Nat → List Sym
 | [], n => zRun n []
 | 0 :: l, n => byL l (Nat.succ n)
 | a :: l, n => zRun n (.by a :: byL l 0)
def Va.wf (K : Kd) : Va → Bool
 | .crc _ => true
 | .lin l => l.ge K 0 && l.le K 65535
 | .mn c l => l.ge K 0 && Nat.ble c 4095
 | .md c d l => l.ge K 0 && Nat.ble c d && Nat.ble d 4095
/-- Is it below 65536? -/
def Va.small : Va → Bool
 | .crc _ => false
 | _ => true
def Sym.wf (K : Kd) : Sym → Bool
 | .by n => Nat.blt n 256
 | .zer l => l.ge K 0
 | .lin l => l.ge K 0 && l.le K 255
 | .txt d => Nat.ble d 1
 | .dig d => Nat.ble d 1
 | .bt v _ => v.wf K
def wfS (K : Kd) : List Sym → Bool
 | [] => true
 | a :: l => bif a.wf K then wfS K l else false
def wfL (K : Kd) : Lt → Bool
 | .str l => wfS K l
 | .sl _ o n j => o.ge K 0 && n.ge K 0 && j.ge K 0
 | .sle _ o n j => o.ge K 0 && n.ge K 0 && j.ge K 0
 | .ptr _ o => o.ge K 0
 | .stl _ o _ a j => o.ge K 0 && a.ge K 0 && j.ge K 0
 | .val _ v _ => v.wf K
 | .byt _ v _ => v.wf K
 | .crs v _ => v.wf K
 | .slp _ c d l => l.ge K 0 && Nat.blt c d && Nat.ble d 4095
 | .slq _ _ c d l => l.ge K 0 && Nat.ble c d && Nat.ble d 4095
 | .plc _ c d l => l.ge K 0 && Nat.ble c d && Nat.ble d 4095
 | .num _ _ => true
def view0 : A1 → Option Lt
 | .y i => decLt i
 | .i k n => some (.num k (.k n))
 | .s l => some (.str (byL l 0))
 | .sl k o n (.un j) => some (.sl k (.k o) (.k n) (.k j))
 | .sl k o n (.ex c) => some (.sle k (.k o) (.k n) (.k c))
 | .p k o => some (.ptr k (.k o))
 | .stl k o z a j => some (.stl k (.k o) z (.k a) (.k j))
 | _ => none
/-- A value, as what it stands for. -/
def view (K : Kd) (x : A1) : Option Lt := match view0 x with
 | some u => bif wfL K u then some u else none
 | none => none
def allBy : List Sym → Option (List Nat)
 | [] => some []
 | .by n :: l => (allBy l).map fun m => n :: m
 | _ :: _ => none
def natK (l : Lin) : Option Nat := bif l.const then (match l.c with
 | .ofNat n => some n
 | _ => none) else none
def back (t : Lt) : Option A1 := match t with
 | .num k l => bif l.const then some (.i k l.c) else letter t
 | .str l => match allBy l with
   | some m => some (.s m)
   | none => letter t
 | .sl k o n j => match natK o, natK n, natK j with
   | some o, some n, some j => some (.sl k o n (.un j))
   | _, _, _ => letter t
 | .sle k o n j => match natK o, natK n, natK j with
   | some o, some n, some j => some (.sl k o n (.ex j))
   | _, _, _ => letter t
 | .ptr k o => match natK o with
   | some o => some (.p k o)
   | none => letter t
 | .stl k o z a j => match natK o, natK a, natK j with
   | some o, some a, some j => some (.stl k o z a j)
   | _, _, _ => letter t
 | _ => letter t
/-- A cell, as a byte. -/
def symOf : A1 → Option Sym
 | .i .u8 (.ofNat n) => bif Nat.blt n 256 then some (.by n) else none
 | .y i => match decLt i with
   | some (.num .u8 l) => some (.lin l)
   | some (.byt .u8 v j) => some (.bt v j)
   | _ => none
 | _ => none
def cellOf : Sym → Option A1
 | .by n => some (.i .u8 n)
 | .lin l => back (.num .u8 l)
 | .bt v j => letter (.byt .u8 v j)
 | _ => none
/-- Many noughts are one. -/
def zipZ : List Sym → Nat → List Sym
 | [], n => zRun n []
 | a :: l, n => match a with
   | .by 0 => zipZ l (Nat.succ n)
   | a => zRun n (a :: zipZ l 0)
def objL : List Nat → Option (Nat × List Sym)
 | 0 :: l => some (0, l.map decSym)
 | 1 :: l => some (1, l.map decSym)
 | _ => none
def decO (c : Nat) : Option (Nat × List Sym) := objL (decN 4096 c)
/-- A row of which only the length is told: n, and the smaller of d and l less the smaller of c and l. -/
structure Jk where
 n : Nat
 c : Nat
 d : Nat
 l : Lin
def Jk.eq (x y : Jk) : Bool := Nat.beq x.n y.n && Nat.beq x.c y.c && Nat.beq x.d y.d && x.l.eq y.l
def junkL : List Nat → Option Jk
 | 2 :: n :: c :: d :: l :: _ => some ⟨n, c, d, decLin l⟩
 | _ => none
def decJ (i : Nat) : Option Jk := junkL (decN 4096 i)
def pickJ (j : Jk) (i : Nat) : Option AO := match decJ i with
 | some j' => bif j.eq j' then some (.y i) else none
 | none => none
def letterJ (j : Jk) : Option AO := fN (encL [2, j.n, j.c, j.d, encLin j.l]) (pickJ j)
def junkAt (h : Hp) (k : Nat) : Option Jk := match h.get k with
 | some (.y i) => decJ i
 | _ => none
/-- An object that is bytes: (row: 0, cells: 1), what. -/
def viewO (K : Kd) : AO → Option (Nat × List Sym)
 | .y i => match decO i with
   | some (q, m) => bif wfS K m then some (q, m) else none
   | none => none
 | .row 5 1 l => (allSome symOf l).bind fun m => bif wfS K m then some (0, zipZ m 0) else none
 | .cells 5 l => (allSome symOf l).bind fun m => bif wfS K m then some (1, zipZ m 0) else none
 | _ => none
def pickO (q : Nat) (l : List Sym) (i : Nat) : Option AO := match decO i with
 | some (q', l') => bif Nat.beq q q' && eqS l' l then some (.y i) else none
 | none => none
def letterO (q : Nat) (l : List Sym) : Option AO := fN (encL (q :: l.map encSym)) (pickO q l)
def backO (q : Nat) (l : List Sym) : Option AO := match allBy l with
 | some m => some (if q = 0 then .row 5 1 (m.map fun (n : Nat) => .i .u8 (n : Int)) else .cells 5 (m.map fun (n : Nat) => .i .u8 (n : Int)))
 | none => letterO q l
/-! ### Lengths, parts -/
section
variable (K : Kd)
def Sym.len : Sym → Lin
 | .by _ => .k 1
 | .txt d => bif Nat.beq d 0 then ⟨0, 1, 0, 0, 0⟩ else ⟨0, 0, 1, 0, 0⟩
 | .dig d => bif Nat.beq d 0 then ⟨0, 0, 0, 1, 0⟩ else ⟨0, 0, 0, 0, 1⟩
 | .zer l => l
 | .lin _ => .k 1
 | .bt _ _ => .k 1
def lenS : List Sym → Lin
 | [] => .k 0
 | a :: l => a.len.add (lenS l)
def isZ (l : Lin) : Bool := l.eq (.k 0)
/-- What is behind o bytes. -/
def dropS : List Sym → Lin → Option (List Sym)
 | l, o => bif isZ o then some l else match l with
  | [] => none
  | a :: m => match dropS m (o.sub a.len), (o.sub a.len).ge K 0 with
   | r, true => r
   | _, false => match a with
    | .zer z => bif (z.sub o).ge K 0 && o.ge K 0 then some (.zer (z.sub o) :: m) else none
    | _ => none
def takeS : List Sym → Lin → Option (List Sym)
 | l, n => bif isZ n then some [] else match l with
  | [] => none
  | a :: m => match (n.sub a.len).ge K 0 with
   | true => (takeS m (n.sub a.len)).map fun r => a :: r
   | false => match a with
    | .zer z => bif (z.sub n).ge K 0 && n.ge K 0 then some [.zer n] else none
    | _ => none
def segS (l : List Sym) (o n : Lin) : Option (List Sym) := (dropS K l o).bind fun m => takeS K m n
/-- The byte at o. -/
def cellS (l : List Sym) (o : Lin) : Option A1 := match dropS K l o with
 | some (.zer z :: _) => bif z.ge K 1 then some (.i .u8 0) else none
 | some (.txt d :: .by n :: _) => none
 | some (a :: _) => cellOf a
 | _ => none
/-- Surely unlike. -/
def unlike : List Sym → List Sym → Bool
 | .by a :: l, .by b :: m => bif Nat.beq a b then unlike l m else true
 | _, _ => false
def differ (l m : List Sym) : Bool := unlike l m || ((lenS l).sub (lenS m)).ge K 1 || ((lenS m).sub (lenS l)).ge K 1
/-- The first place of a byte. -/
def idxS (c : Nat) : List Sym → Lin → Option Lin
 | [], _ => some (.k (-1))
 | a :: l, i => match a with
   | .by n => bif Nat.beq n c then some i else idxS c l (i.add (.k 1))
   | .dig d => bif Nat.ble 48 c && Nat.ble c 57 then none else idxS c l (i.add a.len)
   | .zer z => bif Nat.beq c 0 then none else idxS c l (i.add z)
   | _ => none
def cntS (c : Nat) : List Sym → Option Nat
 | [] => some 0
 | a :: l => match a with
   | .by n => (cntS c l).map fun k => bif Nat.beq n c then k + 1 else k
   | .dig d => bif Nat.ble 48 c && Nat.ble c 57 then none else cntS c l
   | .zer z => bif Nat.beq c 0 then none else cntS c l
   | _ => none
/-! ### Operations -/
/-- Does a number fit a kind surely? -/
def fits (k : IntKind) (l : Lin) : Bool := match k with
 | .i64 => l.ge K (-1000000000) && l.le K 1000000000
 | .u64 => l.ge K 0 && l.le K 1000000000
 | .u32 => l.ge K 0 && l.le K 1000000000
 | .u8 => l.ge K 0 && l.le K 255
 | _ => false
def cmpL (op : BinOp) (d : Lin) : Option Bool := match op with
 | .eql => bif isZ d then some true else bif d.ge K 1 || d.le K (-1) then some false else none
 | .neq => bif isZ d then some false else bif d.ge K 1 || d.le K (-1) then some true else none
 | .lss => bif d.le K (-1) then some true else bif d.ge K 0 then some false else none
 | .leq => bif d.le K 0 then some true else bif d.ge K 1 then some false else none
 | .gtr => bif d.ge K 1 then some true else bif d.le K 0 then some false else none
 | .geq => bif d.ge K 0 then some true else bif d.le K (-1) then some false else none
 | _ => none
def numR (k : IntKind) (l : Lin) : Option A1 := bif fits K k l then back (.num k l) else none
/-- The most that the smaller of d and l less the smaller of c and l may be. -/
def mdHi (c d : Nat) (l : Lin) : Nat := Nat.min (d - c) ((l.hi K).toNat - c)
/-- A bound of a part of l bytes: c, if it is the smaller of c and l. -/
def cutOf (l : Lin) : Lt → Option Nat
 | .num .i64 m => bif m.eq l then (bif l.le K 4095 then some 4095 else none) else bif m.const && l.ge K m.c then natK m else none
 | .val .i64 (.mn c m) 0 => bif m.eq l then some c else none
 | _ => none
def linOf : Lt → Option Lin
 | .val .i64 (.mn _ l) 0 => some l
 | _ => none
def subC (l : Lin) (x y : Lt) : Option A1 := match cutOf K l y, cutOf K l x with
 | some c, some d => bif Nat.ble c d && Nat.ble d 4095 && l.ge K 0 then letter (.val .i64 (.md c d l) 0) else none
 | _, _ => none
def binL (op : BinOp) (x y : Lt) : Option A1 := match x, y with
 | .num k l, .num k' m => match op with
   | .shr => bif m.const && l.ge K 0 && eqK k .u64 then (match m.c with
     | .ofNat n => bif Nat.beq n 0 then back x else bif Nat.beq (n % 8) 0 && Nat.ble n 64 then (bif l.le K 255 then some (.i k 0) else bif l.le K 65535 then (bif Nat.beq n 8 then letter (.val k (.lin l) 1) else some (.i k 0)) else none) else none
     | _ => none) else none
   | .shl => bif l.const && eqI l.c 0 && m.const && m.ge K 0 then some (.i k 0) else none
   | .add => bif eqK k k' then numR K k (l.add m) else none
   | .sub => bif eqK k k' then numR K k (l.sub m) else none
   | .or => bif eqK k .u64 && eqK k' .u64 then (bif isZ l && fits K .u64 m then back y else bif isZ m && fits K .u64 l then back x else none) else none
   | _ => bif eqK k k' then (cmpL K op (l.sub m)).map .b else none
 | .str l, .str m => match op with
   | .add => bif ((lenS l).add (lenS m)).le K 100000 then back (.str (l ++ m)) else none
   | .eql => bif eqS l m then some (.b true) else bif differ K l m then some (.b false) else none
   | .neq => bif eqS l m then some (.b false) else bif differ K l m then some (.b true) else none
   | _ => none
 | .val k v j, .num k' m => match op with
   | .shr => bif m.const && eqK k .u64 then (match m.c with
     | .ofNat n => bif Nat.beq (n % 8) 0 && Nat.ble n 64 then (bif v.small then (bif Nat.ble 2 (j + n / 8) then some (.i k 0) else letter (.val k v (j + n / 8))) else bif Nat.ble (j + n / 8) 3 then letter (.val k v (j + n / 8)) else none) else none
     | _ => none) else none
   | .shl => bif eqI m.c 8 && m.const && Nat.ble 1 j && eqK k .u64 then (match v with
     | .crc i => letter (.crs v j)
     | _ => none) else none
   | .sub => match v, j, k, k' with
     | .mn _ l, 0, .i64, .i64 => subC K l x y
     | _, _, _, _ => none
   | _ => none
 | .num .i64 m, .val .i64 (.mn c l) 0 => match op with
   | .sub => subC K l x y
   | _ => none
 | .byt .u64 v j, .crs v' j' => match op with
   | .or => bif v.eq v' && Nat.beq (j + 1) j' then (match v with
     | .crc i => letter (.val .u64 v j)
     | _ => none) else none
   | _ => none
 | .crs v' j', .byt .u64 v j => match op with
   | .or => bif v.eq v' && Nat.beq (j + 1) j' then (match v with
     | .crc i => letter (.val .u64 v j)
     | _ => none) else none
   | _ => none
 | .num .u64 l, .val .u64 (.crc i) j => match op with
   | .or => bif isZ l then letter (.val .u64 (.crc i) j) else none
   | _ => none
 | .val k v j, .val k' v' j' => match op with
   | .sub => match v, j, k, k' with
     | .mn _ l, 0, .i64, .i64 => subC K l x y
     | _, _, _, _ => none
   | .eql => bif eqK k k' && v.eq v' && Nat.beq j j' then some (.b true) else none
   | .neq => bif eqK k k' && v.eq v' && Nat.beq j j' then some (.b false) else none
   | _ => none
 | .plc n c d l, .num .i64 m => match op with
   | .gtr => bif m.const && geI m.c (Int.ofNat (n + mdHi K c d l)) then some (.b false) else none
   | _ => none
 | _, _ => none
/-- Of one kind into another. -/
def cnvL (k : IntKind) (x : Lt) : Option A1 := match x with
 | .num k0 l => match numR K k l with
   | some r => some r
   | none => bif eqK k .u8 && l.ge K 0 && l.le K 65535 then letter (.byt .u8 (.lin l) 0) else none
 | .val .u32 v j => bif eqK k .u64 then letter (.val .u64 v j) else bif eqK k .u8 then letter (.byt .u8 v j) else none
 | .val .u64 v j => bif eqK k .u8 then letter (.byt .u8 v j) else none
 | .val .i64 v j => bif eqK k .u64 && v.small then letter (.val .u64 v j) else none
 | .byt .u8 v j => bif eqK k .u64 then (match v with
   | .crc i => bif Nat.beq j 3 then letter (.val .u64 v 3) else letter (.byt .u64 v j)
   | _ => none) else none
 | _ => none
def natL (x : Lt) : Option Lin := match x with
 | .num .i64 l => bif l.ge K 0 then some l else none
 | _ => none
def bndL (d : Lin) : Option A1 → Option Lin
 | none => some d
 | some x => (view K x).bind (natL K)
/-- A part from one cut to another. -/
def cutA (l : Lin) : Option A1 → Option Nat
 | none => none
 | some x => (view K x).bind (cutOf K l)
def slpL (x : Lt) (lo hi : Option A1) : Option A1 := match x with
 | .sl k o n j => bif isZ o && isZ j then (match cutA K n lo, cutA K n hi with
   | some c, some d => bif Nat.blt c d && Nat.ble d 4095 && n.ge K 0 then letter (.slp k c d n) else none
   | _, _ => none) else none
 | _ => none
def slcL (isS : Bool) (x : Lt) (lo hi : Option A1) : Option A1 := match x, isS with
 | .str l, true => match bndL K (.k 0) lo, bndL K (lenS l) hi with
   | some a, some b => (segS K l a (b.sub a)).bind fun m => back (.str m)
   | _, _ => none
 | .sl k o n j, false => match bndL K (.k 0) lo, bndL K n hi with
   | some a, some b => bif (b.sub a).ge K 0 && (n.sub b).ge K 0 && (n.sub a).ge K 1 then back (.sl k (o.add a) (b.sub a) (j.add a)) else bif isZ (n.sub a) && isZ (n.sub b) then back (.stl k o 1 a j) else none
   | _, _ => none
 | .sle k o n c, false => match bndL K (.k 0) lo, bndL K n hi with
   | some a, some b => bif (b.sub a).ge K 0 && (c.sub b).ge K 0 && (c.sub a).ge K 1 then back (.sle k (o.add a) (b.sub a) (c.sub a)) else none
   | _, _ => none
 | _, _ => none
def ixaL (x i : Lt) : Option A1 := match x, natL K i with
 | .sl k o n j, some a => bif (n.sub a).ge K 1 then back (.ptr k (o.add a)) else none
 | .sle k o n c, some a => bif (n.sub a).ge K 1 then back (.ptr k (o.add a)) else none
 | _, _ => none
def lenL (t : Nat) : Lt → Option A1
 | .str l => bif Nat.beq t 9 then back (.num .i64 (lenS l)) else none
 | .sl _ _ n _ => bif Nat.beq t 23 then back (.num .i64 n) else none
 | .sle _ _ n _ => bif Nat.beq t 23 then back (.num .i64 n) else none
 | .stl .. => bif Nat.beq t 23 then some (.i .i64 0) else none
 | .slq _ n c d l => bif Nat.beq t 23 then letter (.plc n c d l) else none
 | _ => none
def bytesAt (h : Hp) : Lt → Option (List Sym)
 | .sl k o n _ => ((h.get k).bind (viewO K)).bind fun q => segS K q.2 o n
 | .sle k o n _ => ((h.get k).bind (viewO K)).bind fun q => segS K q.2 o n
 | _ => none
def lenOf1 : Lt → Option Lin
 | .sl _ _ n _ => some n
 | .sle _ _ n _ => some n
 | _ => none
def lodL (h : Hp) (x : Lt) : Option A1 := match x with
 | .ptr k o => ((h.get k).bind (viewO K)).bind fun q => cellS K q.2 o
 | _ => none
def newRow (h : Hp) (l : List Sym) (us : List U) : Option (AV × List U) := match back (.sl h.n (.k 0) (lenS l) (.k 0)), backO 0 l with
 | some r, some o => bif (lenS l).le K 100000 && Nat.blt h.n 2048 then some (.v (.one r), us ++ [.new o]) else none
 | _, _ => none
/-- Is it a row of bytes, of which so many are told? -/
def toldB (h : Hp) (k m : Nat) : Bool := match h.get k with
 | some (.row 5 1 r) => Nat.ble m r.length
 | _ => false
/-- A part between two cuts appended, or one whose bytes are not told: of what is made of it only the length is told. -/
def appP (h : Hp) (s : A1) (x : Lt) : Option (AV × List U) := match view K s with
 | some (.sl k o n j) => match natK n with
   | some m => bif isZ o && isZ j && Nat.ble 1 m && Nat.ble m 4095 && Nat.blt h.n 2048 && toldB h k m then (match x with
     | .slp kb c d l => match (h.get kb).bind (viewO K) with
       | some q => bif (Nat.beq k kb).not && ((lenS q.2).sub l).ge K 0 then (match letter (.slq h.n m c d l), letterJ ⟨m, c, d, l⟩ with
         | some y, some ob => some (.v (.one y), [.del k, .new ob])
         | _, _ => none) else none
       | none => none
     | .sl kb o' n' _ => bif (Nat.beq k kb).not && n'.ge K 1 && n'.le K 4095 && o'.ge K 0 then (match (h.get kb).bind (viewO K) with
       | some q => bif ((lenS q.2).sub (o'.add n')).ge K 0 then (match back (.sl h.n (.k 0) ((Lin.k m).add n') (.k 0)), letterJ ⟨m, 0, 4095, n'⟩ with
         | some y, some ob => some (.v (.one y), [.del k, .new ob])
         | _, _ => none) else none
       | none => none) else none
     | _ => none) else none
   | none => none
 | _ => none
/-- Nothing appended. -/
def appN (s : A1) (x : Lt) : Option (AV × List U) := match x with
 | .stl .. => match s with
   | .nils => some (.v (.one s), [])
   | .sl .. => some (.v (.one s), [])
   | _ => none
 | _ => none
/-- Bytes appended. -/
def appL (h : Hp) (s : A1) (x : Lt) : Option (AV × List U) := match bytesAt K h x, lenOf1 x with
 | some m, some n => bif n.ge K 1 then (match s with
   | .nils => newRow K h m []
   | _ => match view K s with
     | some (.sl k o q j) => bif isZ o && isZ j then (match h.get k with
        | some ob => match viewO K ob with
          | some (0, l) => (takeS K l q).bind fun old => newRow K h (old ++ m) [.del k]
          | _ => none
        | none => none) else none
     | some (.sle k o q c) => bif ((q.add n).sub c).ge K 1 then (match bytesAt K h (.sle k o q c) with
        | some old => newRow K h (old ++ m) []
        | none => none) else none
     | _ => none) else none
 | _, _ => none
/-- Noughts appended. -/
def appZ (h : Hp) (s : A1) (x : Lt) : Option (AV × List U) := match view K s, x with
 | some (.sl k o q j), .num .i64 n => bif isZ n then some (.v (.one s), []) else bif n.ge K 1 && n.ge K 0 && isZ o && isZ j then (match (h.get k).bind (viewO K) with
   | some (0, l) => (takeS K l q).bind fun old => newRow K h (old ++ [.zer n]) [.del k]
   | _ => none) else none
 | _, _ => none
def copyL (h : Hp) (d x : Lt) : Option (AV × List U) := match d, bytesAt K h x, lenOf1 x with
 | .sle k o q c, some m, some n => bif isZ o && (q.sub n).ge K 0 then (match (h.get k).bind (viewO K) with
   | some (1, l) => (dropS K l n).bind fun r => (backO 1 (m ++ r)).bind fun ob => (back (.num .i64 n)).map fun v => (.v (.one v), [.put k ob])
   | _ => none) else none
 | _, _, _ => none
def cellsB (h : Hp) (k : Nat) (n : Int) : Bool := match h.get k with
 | some (.cells 5 r) => eqI (Int.ofNat r.length) n
 | _ => false
/-- What is not told, copied: what it is copied to is told no more. -/
def copyP (h : Hp) (d x : Lt) : Option (AV × List U) := match d with
 | .sle k o q c => bif isZ o && q.const && cellsB h k q.c then (match x with
   | .slq kx n cc dd l => match junkAt h kx with
     | some j => bif geI q.c (Int.ofNat (n + mdHi K cc dd l)) && j.eq ⟨n, cc, dd, l⟩ && Nat.ble 1 n then (letter (.plc n cc dd l)).map fun y => (.v (.one y), [.del k]) else none
     | none => none
   | .sl kx o' n i => match junkAt h kx with
     | some j => bif isZ o' && isZ i && (q.sub n).ge K 0 && Nat.beq j.c 0 && Nat.beq j.d 4095 && j.l.le K 4095 && j.l.ge K 0 && n.eq ((Lin.k j.n).add j.l) then (back (.num .i64 n)).map fun y => (.v (.one y), [.del k]) else none
     | none => none
   | _ => none) else none
 | _ => none
def mkL (h : Hp) (l c : Lt) : Option (AV × List U) := match l, c with
 | .num .i64 a, .num .i64 b => bif a.eq b && a.ge K 0 && a.le K 100000 && Nat.blt h.n 2048 then (match back (.sle h.n (.k 0) a a), backO 1 [.zer a] with
   | some r, some o => some (.v (.one r), [.new o])
   | _, _ => none) else none
 | _, _ => none
/-- The smaller of a number that is told and one that is not. -/
def mnC (x y : Lt) : Option A1 := match x, y with
 | .num .i64 l, .num .i64 m => bif l.const && m.ge K 0 then (match natK l with
   | some c => bif Nat.ble c 4095 then letter (.val .i64 (.mn c m) 0) else none
   | none => none) else none
 | _, _ => none
def mnL (x y : Lt) (mx : Bool) : Option A1 := match x, y with
 | .num k l, .num k' m => bif eqK k k' then (bif (l.sub m).le K 0 then (bif mx then back y else back x) else bif (m.sub l).le K 0 then (bif mx then back x else back y) else bif mx then none else mnC K x y) else none
 | _, _ => none
end
/-! ### All -/
def oneL (A : Fr) (x : Operand) : Option A1 := match evA A x with
 | some (.v (.one a)) => some a
 | _ => none
def r1 (x : Option A1) : Option (AV × List U) := x.map fun a => (.v (.one a), [])
section
variable (K : Kd)
/-- A slice against nil. -/
def nilL (op : BinOp) (t : Nat) : A1 → Option A1
 | .nils => bif Nat.beq t 23 then (match op with
   | .eql => some (.b false)
   | .neq => some (.b true)
   | _ => none) else none
 | _ => none
/-- Operations that read no memory. -/
def pureW (A : Fr) (o : Oper) : Option A1 := match o.op with
 | .binOp op t x y _ => match oneL A x, oneL A y with
   | some a, some b => match view K a, view K b with
     | some u, some v => binL K op u v
     | some (.sl ..), none => nilL op t b
     | some (.sle ..), none => nilL op t b
     | _, _ => none
   | _, _ => none
 | .convert s d x => bif Nat.beq s 3 || Nat.beq s 5 || Nat.beq s 34 || Nat.beq s 35 then (match d with
   | 3 => (oneL A x).bind fun a => (view K a).bind fun u => cnvL K .i64 u
   | 5 => (oneL A x).bind fun a => (view K a).bind fun u => cnvL K .u8 u
   | 35 => (oneL A x).bind fun a => (view K a).bind fun u => cnvL K .u64 u
   | _ => none) else none
 | .slice t x lo hi none => match oneL A x, optOf' A lo, optOf' A hi with
   | some a, some l, some m => match t with
     | 9 => (view K a).bind fun u => slcL K true u l m
     | 23 => (view K a).bind fun u => match slcL K false u l m with
       | some r => some r
       | none => slpL K u l m
     | _ => none
   | _, _, _ => none
 | .indexAddr 23 x i => match oneL A x, oneL A i with
   | some a, some b => match view K a, view K b with
     | some u, some v => ixaL K u v
     | _, _ => none
   | _, _ => none
 | .index 9 x i => match oneL A x, oneL A i with
   | some a, some b => match view K a, view K b with
     | some (.str l), some v => (natL K v).bind fun n => cellS K l n
     | _, _ => none
   | _, _ => none
 | .call c => match c.callee, allSome (oneL A) c.args.toList, c.argTypes.toList with
   | .builtin .len, some [x], [t] => (view K x).bind (lenL t)
   | .builtin .min, some [x, y], _ => match view K x, view K y with
     | some u, some v => mnL K u v false
     | _, _ => none
   | .builtin .max, some [x, y], _ => match view K x, view K y with
     | some u, some v => mnL K u v true
     | _, _ => none
   | _, _, _ => none
 | _ => none
  where optOf' (A : Fr) : Option Operand → Option (Option A1)
 | none => some none
 | some x => (oneL A x).map some
def memW (A : Fr) (h : Hp) (o : Oper) : Option (AV × List U) := match o.op with
 | .load 5 x => (oneL A x).bind fun a => (view K a).bind fun u => r1 (lodL K h u)
 | .convert 23 9 x => (oneL A x).bind fun a => (view K a).bind fun u => (bytesAt K h u).bind fun l => r1 (back (.str l))
 | .convert 9 23 x => (oneL A x).bind fun a => match view K a with
   | some (.str l) => newRow K h l []
   | _ => none
 | .makeSlice 23 l c => match oneL A l, oneL A c with
   | some a, some b => match view K a, view K b with
     | some u, some v => mkL K h u v
     | _, _ => none
   | _, _ => none
 | .call c => match c.callee, allSome (oneL A) c.args.toList, c.argTypes.toList with
   | .builtin .append, some [s, x], [23, 23] => (view K x).bind fun u => match appN s u with
     | some r => some r
     | none => match appL K h s u with
      | some r => some r
      | none => appP K h s u
   | .builtin .append, some [s, x], [23, 3] => (view K x).bind fun u => appZ K h s u
   | .builtin .copy, some [d, x], 23 :: _ => match view K d, view K x with
     | some u, some v => match copyL K h u v with
       | some r => some r
       | none => copyP K h u v
     | _, _ => none
   | _, _, _ => none
 | _ => none
def ruW (A : Fr) (h : Hp) (o : Oper) : Option (AV × List U) := match pureW K A o with
 | some a => some (.v (.one a), [])
 | none => memW K A h o
/-- Taken ahead: what reads no memory; a text made of a letter's bytes. -/
def rpW (A : Fr) (h : Hp) (o : Oper) : Option (AV × Option (Nat × Nat)) := match pureW K A o with
 | some a => some (.v (.one a), none)
 | none => match o.op with
  | .convert 23 9 x => match oneL A x with
   | some a => match view K a with
    | some (.sl k o n j) => match h.get k with
     | some (.y c) => (bytesAt K h (.sl k o n j)).bind fun l => (back (.str l)).map fun r => (.v (.one r), some (k, c))
     | _ => none
    | some (.sle k o n j) => match h.get k with
     | some (.y c) => (bytesAt K h (.sle k o n j)).bind fun l => (back (.str l)).map fun r => (.v (.one r), some (k, c))
     | _ => none
    | _ => none
   | none => none
  | .load 5 x => match oneL A x with
   | some a => match view K a with
    | some (.ptr k o) => match h.get k with
     | some (.y c) => (lodL K h (.ptr k o)).map fun r => (.v (.one r), some (k, c))
     | _ => none
    | _ => none
   | none => none
  | _ => none
/-- Are there no sums among them? -/
def noC : List Sym → Bool
 | [] => true
 | .bt (.crc _) _ :: _ => false
 | _ :: l => noC l
/-- The sum whose bytes these are. -/
def crcNo (tab : List (List Sym)) (l : List Sym) : Nat → Option Nat
 | i => match tab with
  | [] => none
  | m :: r => bif eqS l m && noC m then some i else crcNo r l (i + 1)
/-- Bytes that are told. -/
def allC : List Sym → Option (List Nat)
 | [] => some []
 | a :: l => match a, allC l with
   | .by n, some m => some (n :: m)
   | .zer z, some m => (natK z).map fun n => List.replicate n 0 ++ m
   | _, _ => none
def bytesOf (h : Hp) : Lt → Option (List Sym)
 | .stl .. => some []
 | u => bytesAt K h u
/-- Calls of what looks bytes up, or sums them. -/
def exE (tab : List (List Sym)) (f : Nat) (xs : List AV) (h : Hp) : Option AV := match xs with
 | [.v (.one x), .v (.one (.i .u8 (.ofNat c)))] => bif Nat.blt c 256 then (match f with
   | 274 => (view K x).bind fun u => (bytesOf K h u).bind fun l => (idxS c l (.k 0)).bind fun i => (back (.num .i64 i)).map fun a => .v (.one a)
   | 327 => match view K x with
     | some (.str l) => (idxS c l (.k 0)).bind fun i => (back (.num .i64 i)).map fun a => .v (.one a)
     | _ => none
   | 319 => match view K x with
     | some (.str l) => (cntS c l).map fun n => .v (.one (.i .i64 n))
     | _ => none
   | _ => none) else none
 | [.v (.one (.i .u32 0)), .v (.one x)] => match f with
   | 238 => (view K x).bind fun u => (bytesAt K h u).bind fun l => bif (lenS l).le K 100000 then (match allC l with
     | some m => some (.v (.one (.i .u32 (Nat.xor 4294967295 (cBytes m 4294967295) : Nat))))
     | none => (crcNo tab l 0).bind fun i => (letter (.val .u32 (.crc i) 0)).map fun a => .v (.one a)) else none
   | _ => none
 | _ => none
/-- Which text's length is it? -/
def isLen (l : Lin) : Option Nat := bif l.eq ⟨0, 1, 0, 0, 0⟩ then some 0 else bif l.eq ⟨0, 0, 1, 0, 0⟩ then some 1 else none
def lenOfT (d : Nat) : Lin := bif Nat.beq d 0 then ⟨0, 1, 0, 0, 0⟩ else ⟨0, 0, 1, 0, 0⟩
/-- Calls of what turns lengths into digits, and back. -/
def exD (f : Nat) (xs : List AV) : Option AV := match xs with
 | [.v (.one x)] => match f, view K x with
   | 16, some (.num .u64 l) => (isLen l).bind fun d => (back (.str [.dig d])).map fun a => .v (.one a)
   | 72, some (.num .i64 l) => (isLen l).bind fun d => (back (.str [.dig d])).map fun a => .v (.one a)
   | 285, some (.str [.dig d]) => (back (.num .u64 (lenOfT d))).map fun a => .tup [.one a, .one (.b true)]
   | _, _ => none
 | _ => none
def exW (tab : List (List Sym)) (f : Nat) (xs : List AV) (h : Hp) : Option AV := match exE K tab f xs h with
 | some v => some v
 | none => exD K f xs
end
end Go.Ev
namespace Go.Ev
open Go Go.RowKit
/-- A number below 10000, in digits. -/
def dec4 (n : Nat) : List Nat := bif Nat.blt n 10 then [48 + n] else bif Nat.blt n 100 then [48 + n / 10, 48 + n % 10] else bif Nat.blt n 1000 then [48 + n / 100, 48 + n / 10 % 10, 48 + n % 10] else [48 + n / 1000, 48 + n / 100 % 10, 48 + n / 10 % 10, 48 + n % 10]
theorem dec4_len (n : Nat) : 1 ≤ (dec4 n).length ∧ (dec4 n).length ≤ 4 := by
 unfold dec4
 cases Nat.blt n 10 <;> cases Nat.blt n 100 <;> cases Nat.blt n 1000 <;> simp
theorem dec4_dig {n : Nat} (hn : n < 10000) : ∀ c ∈ dec4 n, 48 ≤ c ∧ c ≤ 57 := by
 unfold dec4
 cases h1 : Nat.blt n 10
 · cases h2 : Nat.blt n 100
   · cases h3 : Nat.blt n 1000
     · simp
       omega
     · have := Nat.le_of_ble_eq_true h3
       simp
       omega
   · have := Nat.le_of_ble_eq_true h2
     simp
     omega
 · have := Nat.le_of_ble_eq_true h1
   simp
   omega
/-- The texts. -/
structure D2 where
 s : Nat → List Nat
 byte : ∀ d, ∀ c ∈ s d, c < 256
 len : ∀ d, (s d).length ≤ 1000
def D2.n (D : D2) (d : Nat) : Nat := (D.s d).length
def D2.t (D : D2) (d : Nat) : Nat := (dec4 (D.n d)).length
structure KdOk (K : Kd) (D : D2) : Prop where
 a : K.la ≤ D.n 0 ∧ D.n 0 ≤ K.ha
 b : K.lb ≤ D.n 1 ∧ D.n 1 ≤ K.hb
 s : K.ls ≤ D.n 0 + D.n 1 ∧ D.n 0 + D.n 1 ≤ K.hs
/-! ### Numbers -/
theorem eqI_ok : ∀ {a b : Int}, eqI a b = true → a = b
 | .ofNat m, .ofNat n, h => congrArg Int.ofNat (Nat.eq_of_beq_eq_true h)
 | .negSucc m, .negSucc n, h => congrArg Int.negSucc (Nat.eq_of_beq_eq_true h)
 | .ofNat _, .negSucc _, h => nomatch h
 | .negSucc _, .ofNat _, h => nomatch h
theorem geI_ok : ∀ {a b : Int}, geI a b = true → b ≤ a
 | .ofNat m, .ofNat n, h => Int.ofNat_le.2 (Nat.le_of_ble_eq_true h)
 | .negSucc m, .negSucc n, h => by
  have := Nat.le_of_ble_eq_true h
  rw [Int.negSucc_eq, Int.negSucc_eq]
  omega
 | .ofNat m, .negSucc n, _ => by
  rw [Int.negSucc_eq]
  show -((n : Int) + 1) ≤ (m : Int)
  omega
 | .negSucc _, .ofNat _, h => nomatch h
theorem Lin.eq_ok {x y : Lin} (h : x.eq y = true) : x = y := by
 obtain ⟨c, a, b, s, t⟩ := x
 obtain ⟨c', a', b', s', t'⟩ := y
 unfold Lin.eq at h
 simp only [Bool.and_eq_true] at h
 obtain ⟨⟨⟨⟨h1, h2⟩, h3⟩, h4⟩, h5⟩ := h
 rw [eqI_ok h1, eqI_ok h2, eqI_ok h3, eqI_ok h4, eqI_ok h5]
section
variable (D : D2)
def Lin.val (x : Lin) : Int := x.c + x.a * (D.n 0 : Nat) + x.b * (D.n 1 : Nat) + x.s * (D.t 0 : Nat) + x.t * (D.t 1 : Nat)
theorem val_k (n : Int) : (Lin.k n).val D = n := by simp [Lin.val, Lin.k]
theorem val_add (x y : Lin) : (x.add y).val D = x.val D + y.val D := by
 simp only [Lin.val, Lin.add, Int.add_mul]
 omega
theorem val_sub (x y : Lin) : (x.sub y).val D = x.val D - y.val D := by
 simp only [Lin.val, Lin.sub, Int.sub_mul]
 omega
end
section
variable {D : D2} {K : Kd}
theorem val_const {x : Lin} (h : x.const = true) : x.val D = x.c := by
 unfold Lin.const at h
 simp only [Bool.and_eq_true] at h
 obtain ⟨⟨⟨h2, h3⟩, h4⟩, h5⟩ := h
 simp [Lin.val, eqI_ok h2, eqI_ok h3, eqI_ok h4, eqI_ok h5]
theorem val_z {x : Lin} (h : isZ x = true) : x.val D = 0 := by
 rw [Lin.eq_ok h, val_k]
theorem mulLo_le {k : Int} {l h n : Nat} (h1 : l ≤ n) (h2 : n ≤ h) : mulLo k l h ≤ k * (n : Int) := by
 cases k with
 | ofNat m =>
  show ((m * l : Nat) : Int) ≤ (m : Int) * (n : Int)
  have := Nat.mul_le_mul_left m h1
  rw [← Int.natCast_mul]
  omega
 | negSucc m =>
  show -(((m + 1) * h : Nat) : Int) ≤ Int.negSucc m * (n : Int)
  have := Nat.mul_le_mul_left (m + 1) h2
  rw [Int.negSucc_eq, Int.neg_mul, show (m : Int) + 1 = ((m + 1 : Nat) : Int) from rfl, ← Int.natCast_mul]
  omega
theorem le_mulHi {k : Int} {l h n : Nat} (h1 : l ≤ n) (h2 : n ≤ h) : k * (n : Int) ≤ mulHi k l h := by
 cases k with
 | ofNat m =>
  show (m : Int) * (n : Int) ≤ ((m * h : Nat) : Int)
  have := Nat.mul_le_mul_left m h2
  rw [← Int.natCast_mul]
  omega
 | negSucc m =>
  show Int.negSucc m * (n : Int) ≤ -(((m + 1) * l : Nat) : Int)
  have := Nat.mul_le_mul_left (m + 1) h1
  rw [Int.negSucc_eq, Int.neg_mul, show (m : Int) + 1 = ((m + 1 : Nat) : Int) from rfl, ← Int.natCast_mul]
  omega
theorem D2.tle (D : D2) (d : Nat) : 1 ≤ D.t d ∧ D.t d ≤ 4 := dec4_len _
theorem D2.nle (D : D2) (d : Nat) : D.n d ≤ 1000 := D.len d
theorem two_eq {x : Lin} (h : eqI x.a x.b = true) : x.a * (D.n 0 : Nat) + x.b * (D.n 1 : Nat) = x.a * ((D.n 0 + D.n 1 : Nat) : Int) := by
 rw [← eqI_ok h, Int.natCast_add, Int.mul_add]
theorem ge_ok (hK : KdOk K D) {x : Lin} {n : Int} (h : x.ge K n = true) : n ≤ x.val D := by
 have h1 := geI_ok h
 have s := mulLo_le (k := x.s) (D.tle 0).1 (D.tle 0).2
 have t := mulLo_le (k := x.t) (D.tle 1).1 (D.tle 1).2
 unfold Lin.lo at h1
 unfold Lin.val
 cases he : eqI x.a x.b with
 | true =>
  rw [he, cond_true] at h1
  have := two_eq (D := D) he
  have a := mulLo_le (k := x.a) hK.s.1 hK.s.2
  omega
 | false =>
  rw [he, cond_false] at h1
  have a := mulLo_le (k := x.a) hK.a.1 hK.a.2
  have b := mulLo_le (k := x.b) hK.b.1 hK.b.2
  omega
theorem hi_ok (hK : KdOk K D) (x : Lin) : x.val D ≤ x.hi K := by
 have s := le_mulHi (k := x.s) (D.tle 0).1 (D.tle 0).2
 have t := le_mulHi (k := x.t) (D.tle 1).1 (D.tle 1).2
 unfold Lin.hi
 unfold Lin.val
 cases he : eqI x.a x.b with
 | true =>
  rw [cond_true]
  have := two_eq (D := D) he
  have a := le_mulHi (k := x.a) hK.s.1 hK.s.2
  omega
 | false =>
  rw [cond_false]
  have a := le_mulHi (k := x.a) hK.a.1 hK.a.2
  have b := le_mulHi (k := x.b) hK.b.1 hK.b.2
  omega
theorem le_ok (hK : KdOk K D) {x : Lin} {n : Int} (h : x.le K n = true) : x.val D ≤ n := Int.le_trans (hi_ok hK x) (geI_ok h)
theorem eqK_ok {a b : IntKind} (h : eqK a b = true) : a = b := by cases a <;> cases b <;> first | rfl | cases h
theorem Va.eq_ok {x y : Va} (h : x.eq y = true) : x = y := by
 cases x <;> cases y <;> first
 | (cases h; done)
 | (have := Nat.eq_of_beq_eq_true h; rw [this]; done)
 | (have := Lin.eq_ok h; rw [this]; done)
 | (simp only [Va.eq, Bool.and_eq_true] at h
    first
    | (rw [Nat.eq_of_beq_eq_true h.1, Lin.eq_ok h.2]; done)
    | (rw [Nat.eq_of_beq_eq_true h.1.1, Nat.eq_of_beq_eq_true h.1.2, Lin.eq_ok h.2]; done))
theorem Sym.eq_ok {x y : Sym} (h : x.eq y = true) : x = y := by
 cases x <;> cases y <;> first
 | (cases h; done)
 | (have := Nat.eq_of_beq_eq_true h; rw [this]; done)
 | (have := Lin.eq_ok h; rw [this]; done)
 | (simp only [Sym.eq, Bool.and_eq_true] at h
    rw [Va.eq_ok h.1, Nat.eq_of_beq_eq_true h.2])
theorem eqS_ok : ∀ {l m : List Sym}, eqS l m = true → l = m
 | [], [], _ => rfl
 | a :: l, b :: m, h => by
  unfold eqS at h
  cases hb : a.eq b with
  | false => simp [hb] at h
  | true =>
   rw [hb, cond_true] at h
   rw [Sym.eq_ok hb, eqS_ok h]
 | [], _ :: _, h => nomatch h
 | _ :: _, [], h => nomatch h
theorem Lt.eq_ok {x y : Lt} (h : x.eq y = true) : x = y := by
 cases x <;> cases y <;> first
 | (cases h; done)
 | (have := eqS_ok h; rw [this]; done)
 | (simp only [Lt.eq, Bool.and_eq_true] at h
    first
    | (rw [eqK_ok h.1, Lin.eq_ok h.2]; done)
    | (rw [Nat.eq_of_beq_eq_true h.1, Lin.eq_ok h.2]; done)
    | (rw [Va.eq_ok h.1, Nat.eq_of_beq_eq_true h.2]; done)
    | (rw [eqK_ok h.1.1, Va.eq_ok h.1.2, Nat.eq_of_beq_eq_true h.2]; done)
    | (rw [Nat.eq_of_beq_eq_true h.1.1.1, Lin.eq_ok h.1.1.2, Lin.eq_ok h.1.2, Lin.eq_ok h.2]; done)
    | (rw [Nat.eq_of_beq_eq_true h.1.1.1, Nat.eq_of_beq_eq_true h.1.1.2, Nat.eq_of_beq_eq_true h.1.2, Lin.eq_ok h.2]; done)
    | (rw [Nat.eq_of_beq_eq_true h.1.1.1.1, Nat.eq_of_beq_eq_true h.1.1.1.2, Nat.eq_of_beq_eq_true h.1.1.2, Nat.eq_of_beq_eq_true h.1.2, Lin.eq_ok h.2]; done)
    | (rw [Nat.eq_of_beq_eq_true h.1.1.1.1, Lin.eq_ok h.1.1.1.2, Nat.eq_of_beq_eq_true h.1.1.2, Lin.eq_ok h.1.2, Lin.eq_ok h.2]; done))
end
/-! ### Bytes -/
section
variable (D : D2) (q : Nat → Nat)
def Va.val : Va → Nat
 | .crc i => q i
 | .lin l => (l.val D).toNat
 | .mn c l => Nat.min c (l.val D).toNat
 | .md c d l => Nat.min d (l.val D).toNat - Nat.min c (l.val D).toNat
def Sym.bytes : Sym → List Nat
 | .by n => [n]
 | .txt d => D.s d
 | .dig d => dec4 (D.n d)
 | .zer l => List.replicate (l.val D).toNat 0
 | .lin l => [(l.val D).toNat]
 | .bt v j => [v.val D q / 256 ^ j % 256]
def strB : List Sym → List Nat
 | [] => []
 | a :: l => a.bytes D q ++ strB l
theorem strB_app : ∀ (l m : List Sym), strB D q (l ++ m) = strB D q l ++ strB D q m
 | [], _ => rfl
 | a :: l, m => by
  show a.bytes D q ++ strB D q (l ++ m) = (a.bytes D q ++ strB D q l) ++ strB D q m
  rw [strB_app l m, List.append_assoc]
theorem strB_zRun (n : Nat) (l : List Sym) : strB D q (zRun n l) = List.replicate n 0 ++ strB D q l := by
 unfold zRun
 cases Nat.ble 8 n with
 | true =>
  show List.replicate ((Lin.k n).val D).toNat 0 ++ strB D q l = _
  rw [val_k]
  rfl
 | false =>
  show strB D q (List.replicate n (.by 0) ++ l) = _
  rw [strB_app]
  congr 1
  induction n with
  | zero => rfl
  | succ n ih =>
   show [0] ++ strB D q (List.replicate n (.by 0)) = _
   rw [ih]
   rfl
theorem rep_succ (n : Nat) (l : List Nat) : List.replicate (n + 1) 0 ++ l = List.replicate n 0 ++ 0 :: l := by
 rw [List.replicate_succ', List.append_assoc]
 rfl
theorem strB_byL : ∀ (l : List Nat) (n : Nat), strB D q (byL l n) = List.replicate n 0 ++ l
 | [], n => by
  show strB D q (zRun n []) = _
  rw [strB_zRun]
  rfl
 | 0 :: l, n => by
  show strB D q (byL l (n + 1)) = _
  rw [strB_byL l (n + 1), rep_succ]
 | (a + 1) :: l, n => by
  show strB D q (zRun n (.by (a + 1) :: byL l 0)) = _
  rw [strB_zRun]
  show _ ++ ([a + 1] ++ strB D q (byL l 0)) = _
  rw [strB_byL l 0]
  rfl
theorem strB_zipZ : ∀ (l : List Sym) (n : Nat), strB D q (zipZ l n) = List.replicate n 0 ++ strB D q l
 | [], n => by
  show strB D q (zRun n []) = _
  rw [strB_zRun]
 | a :: l, n => by
  have hz : strB D q (zRun n (a :: zipZ l 0)) = List.replicate n 0 ++ strB D q (a :: l) := by
   rw [strB_zRun]
   show _ ++ (a.bytes D q ++ strB D q (zipZ l 0)) = _
   rw [strB_zipZ l 0]
   rfl
  unfold zipZ
  split
  · show strB D q (zipZ l (n + 1)) = _
    rw [strB_zipZ l (n + 1), rep_succ]
    rfl
  · exact hz
end
section
variable {D : D2} {K : Kd} {q : Nat → Nat}
theorem allBy_ok : ∀ {l : List Sym} {m : List Nat}, allBy l = some m → strB D q l = m
 | [], m, h => by cases h; rfl
 | .by n :: l, m, h => by
  unfold allBy at h
  cases hl : allBy l with
  | none => simp [hl] at h
  | some r =>
   simp only [hl, Option.map_some, Option.some.injEq] at h
   subst h
   show [n] ++ strB D q l = _
   rw [allBy_ok hl]
   rfl
 | .txt _ :: _, _, h | .dig _ :: _, _, h | .zer _ :: _, _, h | .lin _ :: _, _, h | .bt _ _ :: _, _, h => nomatch h
theorem len_ok (hK : KdOk K D) {a : Sym} (hw : a.wf K = true) : a.len.val D = ((a.bytes D q).length : Nat) := by
 cases a with
 | «by» n => exact val_k D 1
 | txt d =>
  have := Nat.le_of_ble_eq_true hw
  rcases d with _ | _ | d
  · simp [Sym.len, Sym.bytes, Lin.val, D2.n]
  · show Lin.val D ⟨0, 0, 1, 0, 0⟩ = _
    simp [Sym.bytes, Lin.val, D2.n]
  · omega
 | dig d =>
  have := Nat.le_of_ble_eq_true hw
  rcases d with _ | _ | d
  · simp [Sym.len, Sym.bytes, Lin.val, D2.t]
  · show Lin.val D ⟨0, 0, 0, 0, 1⟩ = _
    simp [Sym.bytes, Lin.val, D2.t]
  · omega
 | zer l =>
  have := ge_ok hK hw
  simp [Sym.len, Sym.bytes]
  omega
 | lin l => exact val_k D 1
 | bt v j => exact val_k D 1
theorem wfS_cons {a : Sym} {l : List Sym} (h : wfS K (a :: l) = true) : a.wf K = true ∧ wfS K l = true := by
 unfold wfS at h
 cases ha : a.wf K with
 | false => simp [ha] at h
 | true => exact ⟨rfl, by simpa [ha] using h⟩
theorem wfS_mk {a : Sym} {l : List Sym} (h : a.wf K = true) (hl : wfS K l = true) : wfS K (a :: l) = true := by
 unfold wfS
 rw [h]
 exact hl
theorem wfS_app : ∀ {l m : List Sym}, wfS K l = true → wfS K m = true → wfS K (l ++ m) = true
 | [], m, _, h => h
 | a :: l, m, h, h' => wfS_mk (wfS_cons h).1 (wfS_app (wfS_cons h).2 h')
theorem lenS_ok (hK : KdOk K D) : ∀ {l : List Sym}, wfS K l = true → (lenS l).val D = ((strB D q l).length : Nat)
 | [], _ => val_k D 0
 | a :: l, h => by
  obtain ⟨h1, h2⟩ := wfS_cons h
  show (a.len.add (lenS l)).val D = ((a.bytes D q ++ strB D q l).length : Nat)
  rw [val_add, len_ok (q := q) hK h1, lenS_ok hK h2, List.length_append]
  omega
theorem dropS_ok (hK : KdOk K D) : ∀ {l : List Sym} {o : Lin} {r : List Sym}, wfS K l = true → dropS K l o = some r → ∃ n : Nat, o.val D = n ∧ n ≤ (strB D q l).length ∧ (strB D q l).drop n = strB D q r ∧ wfS K r = true
 | [], o, r, hw, h => by
  unfold dropS at h
  cases hz : isZ o with
  | false => simp [hz] at h
  | true =>
   simp only [hz, cond_true, Option.some.injEq] at h
   subst h
   exact ⟨0, val_z hz, Nat.zero_le _, rfl, hw⟩
 | a :: m, o, r, hw, h => by
  obtain ⟨hw1, hw2⟩ := wfS_cons hw
  unfold dropS at h
  cases hz : isZ o with
  | true =>
   simp only [hz, cond_true, Option.some.injEq] at h
   subst h
   exact ⟨0, val_z hz, Nat.zero_le _, rfl, hw⟩
  | false =>
   simp only [hz, cond_false] at h
   have hl := len_ok (q := q) hK hw1
   cases hg : (o.sub a.len).ge K 0 with
   | true =>
    simp only [hg] at h
    obtain ⟨n, h1, h2, h3, h4⟩ := dropS_ok hK hw2 h
    rw [val_sub, hl] at h1
    refine ⟨n + (a.bytes D q).length, by omega, ?_, ?_, h4⟩
    · show _ ≤ (a.bytes D q ++ strB D q m).length
      rw [List.length_append]
      omega
    · show (a.bytes D q ++ strB D q m).drop _ = _
      rw [List.drop_append, List.drop_of_length_le (by omega), List.nil_append, ← h3]
      congr 1
      omega
   | false =>
    simp only [hg] at h
    split at h
    · rename_i z
      cases hc : (z.sub o).ge K 0 && o.ge K 0 with
      | false => simp [hc] at h
      | true =>
       simp only [hc, cond_true, Option.some.injEq] at h
       subst h
       rw [Bool.and_eq_true] at hc
       have g1 := ge_ok hK hc.1
       have g2 := ge_ok hK hc.2
       rw [val_sub] at g1
       obtain ⟨n, hn⟩ : ∃ n : Nat, o.val D = n := ⟨(o.val D).toNat, by omega⟩
       refine ⟨n, hn, ?_, ?_, wfS_mk hc.1 hw2⟩
       · show n ≤ (List.replicate (z.val D).toNat 0 ++ strB D q m).length
         rw [List.length_append, List.length_replicate]
         omega
       · show (List.replicate (z.val D).toNat 0 ++ strB D q m).drop n = List.replicate ((z.sub o).val D).toNat 0 ++ strB D q m
         rw [List.drop_append, List.length_replicate, List.drop_replicate, val_sub, show n - (z.val D).toNat = 0 by omega, List.drop_zero]
         congr 2
         omega
    · cases h
theorem takeS_ok (hK : KdOk K D) : ∀ {l : List Sym} {o : Lin} {r : List Sym}, wfS K l = true → takeS K l o = some r → ∃ n : Nat, o.val D = n ∧ n ≤ (strB D q l).length ∧ (strB D q l).take n = strB D q r ∧ wfS K r = true
 | [], o, r, hw, h => by
  unfold takeS at h
  cases hz : isZ o with
  | false => simp [hz] at h
  | true =>
   simp only [hz, cond_true, Option.some.injEq] at h
   subst h
   exact ⟨0, val_z hz, Nat.zero_le _, rfl, rfl⟩
 | a :: m, o, r, hw, h => by
  obtain ⟨hw1, hw2⟩ := wfS_cons hw
  unfold takeS at h
  cases hz : isZ o with
  | true =>
   simp only [hz, cond_true, Option.some.injEq] at h
   subst h
   exact ⟨0, val_z hz, Nat.zero_le _, rfl, rfl⟩
  | false =>
   simp only [hz, cond_false] at h
   have hl := len_ok (q := q) hK hw1
   cases hg : (o.sub a.len).ge K 0 with
   | true =>
    simp only [hg] at h
    cases hr : takeS K m (o.sub a.len) with
    | none => simp [hr] at h
    | some r' =>
     simp only [hr, Option.map_some, Option.some.injEq] at h
     subst h
     obtain ⟨n, h1, h2, h3, h4⟩ := takeS_ok hK hw2 hr
     rw [val_sub, hl] at h1
     refine ⟨n + (a.bytes D q).length, by omega, ?_, ?_, wfS_mk hw1 h4⟩
     · show _ ≤ (a.bytes D q ++ strB D q m).length
       rw [List.length_append]
       omega
     · show (a.bytes D q ++ strB D q m).take _ = a.bytes D q ++ strB D q r'
       rw [List.take_append, List.take_of_length_le (by omega), ← h3]
       congr 2
       omega
   | false =>
    simp only [hg] at h
    split at h
    · rename_i z
      cases hc : (z.sub o).ge K 0 && o.ge K 0 with
      | false => simp [hc] at h
      | true =>
       simp only [hc, cond_true, Option.some.injEq] at h
       subst h
       rw [Bool.and_eq_true] at hc
       have g1 := ge_ok hK hc.1
       have g2 := ge_ok hK hc.2
       rw [val_sub] at g1
       obtain ⟨n, hn⟩ : ∃ n : Nat, o.val D = n := ⟨(o.val D).toNat, by omega⟩
       refine ⟨n, hn, ?_, ?_, wfS_mk hc.2 rfl⟩
       · show n ≤ (List.replicate (z.val D).toNat 0 ++ strB D q m).length
         rw [List.length_append, List.length_replicate]
         omega
       · show (List.replicate (z.val D).toNat 0 ++ strB D q m).take n = List.replicate (o.val D).toNat 0 ++ []
         rw [List.take_append, List.length_replicate, List.take_replicate, show n - (z.val D).toNat = 0 by omega, List.take_zero]
         congr 2
         omega
    · cases h
theorem segS_ok (hK : KdOk K D) {l r : List Sym} {o n : Lin} (hw : wfS K l = true) (h : segS K l o n = some r) : ∃ o' n' : Nat, o.val D = o' ∧ n.val D = n' ∧ o' + n' ≤ (strB D q l).length ∧ ((strB D q l).drop o').take n' = strB D q r ∧ wfS K r = true := by
 unfold segS at h
 cases hd : dropS K l o with
 | none => simp [hd] at h
 | some m =>
  simp only [hd, Option.bind_some] at h
  obtain ⟨o', h1, h2, h3, h4⟩ := dropS_ok (q := q) hK hw hd
  obtain ⟨n', g1, g2, g3, g4⟩ := takeS_ok (q := q) hK h4 h
  refine ⟨o', n', h1, g1, ?_, by rw [h3]; exact g3, g4⟩
  have := congrArg List.length h3
  rw [List.length_drop] at this
  omega
end
end Go.Ev
namespace Go.Ev
open Go Go.RowKit
def cellsU (l : List Nat) : List A1 := l.map fun (n : Nat) => .i .u8 (n : Int)
theorem cellsU_drop (l : List Nat) (k : Nat) : (cellsU l).drop k = cellsU (l.drop k) := by unfold cellsU; rw [List.map_drop]
theorem cellsU_take (l : List Nat) (k : Nat) : (cellsU l).take k = cellsU (l.take k) := by unfold cellsU; rw [List.map_take]
theorem cellsU_len (l : List Nat) : (cellsU l).length = l.length := by simp [cellsU]
end Go.Ev
namespace Go.Ev
open Go Go.RowKit
section
variable (D : D2) (q : Nat → Nat)
def Lt.den : Lt → A1
 | .num k l => .i k (l.val D)
 | .str l => .s (strB D q l)
 | .sl k o n j => .sl k (o.val D).toNat (n.val D).toNat (.un (j.val D).toNat)
 | .sle k o n c => .sl k (o.val D).toNat (n.val D).toNat (.ex (c.val D).toNat)
 | .ptr k o => .p k (o.val D).toNat
 | .stl k o z a j => .stl k (o.val D).toNat z (a.val D).toNat (j.val D).toNat
 | .val k v j => .i k ((v.val D q / 256 ^ j : Nat) : Int)
 | .byt k v j => .i k ((v.val D q / 256 ^ j % 256 : Nat) : Int)
 | .crs v j => .i .u64 ((v.val D q / 256 ^ j * 256 : Nat) : Int)
 | .slp k c d l => let m := (l.val D).toNat; if Nat.min c m = m then .stl k 0 1 m 0 else .sl k (Nat.min c m) (Nat.min d m - Nat.min c m) (.un (Nat.min c m))
 | .slq k n c d l => let m := (l.val D).toNat; .sl k 0 (n + (Nat.min d m - Nat.min c m)) (.un 0)
 | .plc n c d l => let m := (l.val D).toNat; .i .i64 ((n + (Nat.min d m - Nat.min c m) : Nat) : Int)
/-- An object of bytes: a row, or cells. -/
def mkO (t : Nat) (l : List Nat) : AO := match t with
 | 0 => .row 5 1 (cellsU l)
 | _ => .cells 5 (cellsU l)
def valU : Option Lt → A1
 | some u => u.den D q
 | none => .nilp
def objU : Option (Nat × List Sym) → AO
 | some (t, l) => mkO t (strB D q l)
 | none => .siter [] 0
def vW (i : Nat) : A1 := valU D q (decLt i)
def Jk.len (j : Jk) : Nat := j.n + (Nat.min j.d (j.l.val D).toNat - Nat.min j.c (j.l.val D).toNat)
/-- A row of which only the length is told. -/
def mkJ (n : Nat) : AO := .row 5 1 (List.replicate n (.c 0))
def jkU : Option Jk → AO → AO
 | some j, _ => mkJ (j.len D)
 | none, o => o
def oW (i : Nat) : AO := jkU D (decJ i) (objU D q (decO i))
theorem den_noY (u : Lt) : (∀ j, u.den D q ≠ .y j) ∧ u.den D q ≠ .c 0 := by
 cases u with
 | slp k c d l =>
  show (∀ j, (if Nat.min c (l.val D).toNat = (l.val D).toNat then A1.stl k 0 1 (l.val D).toNat 0 else _) ≠ .y j) ∧ (if Nat.min c (l.val D).toNat = (l.val D).toNat then A1.stl k 0 1 (l.val D).toNat 0 else _) ≠ .c 0
  split <;> exact ⟨fun _ h => (nomatch h), fun h => (nomatch h)⟩
 | _ => exact ⟨fun _ h => (nomatch h), fun h => (nomatch h)⟩
theorem val_noY : ∀ u : Option Lt, (∀ j, valU D q u ≠ .y j) ∧ valU D q u ≠ .c 0
 | none => ⟨fun _ h => (nomatch h), fun h => (nomatch h)⟩
 | some u => den_noY D q u
theorem mkO_plain (t : Nat) (l : List Nat) : (∀ j, mkO t l ≠ .y j) ∧ (∀ f m, mkO t l ≠ .clo f m) ∧ (∀ t' x, mkO t l ≠ .ifc t' x) := by
 cases t <;> exact ⟨fun _ h => (nomatch h), fun _ _ h => (nomatch h), fun _ _ h => (nomatch h)⟩
theorem obj_plain : ∀ u : Option (Nat × List Sym), (∀ j, objU D q u ≠ .y j) ∧ (∀ f m, objU D q u ≠ .clo f m) ∧ (∀ t' x, objU D q u ≠ .ifc t' x)
 | none => ⟨fun _ h => (nomatch h), fun _ _ h => (nomatch h), fun _ _ h => (nomatch h)⟩
 | some (t, l) => mkO_plain t _
theorem jk_plain (u : Option Jk) (o : AO) (h : (∀ j, o ≠ .y j) ∧ (∀ f m, o ≠ .clo f m) ∧ (∀ t' x, o ≠ .ifc t' x)) : (∀ j, jkU D u o ≠ .y j) ∧ (∀ f m, jkU D u o ≠ .clo f m) ∧ (∀ t' x, jkU D u o ≠ .ifc t' x) := by
 cases u with
 | none => exact h
 | some j => exact ⟨fun _ h => (nomatch h), fun _ _ h => (nomatch h), fun _ _ h => (nomatch h)⟩
abbrev syW : Sy where
 v := vW D q
 o := oW D q
 c := fun _ => .bool true
 one := fun _ => rfl
 vb := fun i => (val_noY D q (decLt i)).1
 vc := fun i => (val_noY D q (decLt i)).2
 ob := fun i => (jk_plain D (decJ i) _ (obj_plain D q (decO i))).1
 oc := fun i => (jk_plain D (decJ i) _ (obj_plain D q (decO i))).2.1
 oi := fun i => (jk_plain D (decJ i) _ (obj_plain D q (decO i))).2.2
/-- What a value stands for. -/
abbrev dW (x : A1) : A1 := @A1.den (syW D q) x
theorem dW_y (i : Nat) : dW D q (.y i) = vW D q i := rfl
end
section
variable {D : D2} {K : Kd} {q : Nat → Nat}
theorem toNat_k (n : Nat) : ((Lin.k n).val D).toNat = n := by rw [val_k]; rfl
theorem view0_ok {x : A1} {u : Lt} (h : view0 x = some u) : dW D q x = u.den D q := by
 unfold view0 at h
 split at h
 · rename_i i
   show valU D q (decLt i) = _
   rw [h]
   rfl
 · cases h
   show A1.i _ _ = A1.i _ ((Lin.k _).val D)
   rw [val_k]
 · cases h
   show A1.s _ = A1.s (strB D q (byL _ 0))
   rw [strB_byL]
   rfl
 · cases h
   show _ = A1.sl _ _ _ _
   simp only [toNat_k]
   rfl
 · cases h
   show _ = A1.sl _ _ _ _
   simp only [toNat_k]
   rfl
 · cases h
   show _ = A1.p _ _
   simp only [toNat_k]
   rfl
 · cases h
   show _ = A1.stl _ _ _ _ _
   simp only [toNat_k]
   rfl
 · cases h
theorem view_ok {x : A1} {u : Lt} (h : view K x = some u) : dW D q x = u.den D q ∧ wfL K u = true := by
 unfold view at h
 split at h
 · rename_i u' h1
   cases hw : wfL K u' with
   | false => simp [hw] at h
   | true =>
    simp only [hw, cond_true, Option.some.injEq] at h
    subst h
    exact ⟨view0_ok h1, hw⟩
 · cases h
theorem fN_id {β : Type} (n : Nat) (k : Nat → β) : fN n k = k n := by cases n <;> rfl
theorem pickL_ok {t : Lt} {i : Nat} {x : A1} (h : pickL t i = some x) : dW D q x = t.den D q := by
 unfold pickL at h
 cases h1 : decLt i with
 | none => rw [h1] at h; cases h
 | some u =>
  rw [h1] at h
  have h : (bif u.eq t then some (A1.y i) else none) = some x := h
  cases he : u.eq t with
  | false => rw [he] at h; cases h
  | true =>
   rw [he, cond_true] at h
   injection h with h
   subst h
   show valU D q (decLt i) = _
   rw [h1, Lt.eq_ok he]
   rfl
theorem letter_ok {t : Lt} {x : A1} (h : letter t = some x) : dW D q x = t.den D q := by
 unfold letter at h
 rw [fN_id] at h
 exact pickL_ok h
theorem natK_ok {l : Lin} {n : Nat} (h : natK l = some n) : l.val D = n := by
 unfold natK at h
 cases hc : l.const with
 | false => simp [hc] at h
 | true =>
  simp only [hc, cond_true] at h
  rw [val_const hc]
  split at h
  · rename_i m hm
    cases h
    rw [hm]
    rfl
  · cases h
theorem back_num {k : IntKind} {l : Lin} {x : A1} (h : (bif l.const then some (.i k l.c) else letter (.num k l)) = some x) : dW D q x = (Lt.num k l).den D q := by
 cases hc : l.const with
 | true =>
  rw [hc, cond_true] at h
  injection h with h
  subst h
  have := val_const (D := D) hc
  exact (congrArg (A1.i k) this.symm)
 | false =>
  rw [hc, cond_false] at h
  exact letter_ok h
theorem back_str {l : List Sym} {x : A1} (h : (match allBy l with | some m => some (.s m) | none => letter (.str l)) = some x) : dW D q x = (Lt.str l).den D q := by
 cases hm : allBy l with
 | some m =>
  rw [hm] at h
  injection h with h
  subst h
  exact congrArg A1.s (allBy_ok (D := D) (q := q) hm).symm
 | none =>
  rw [hm] at h
  exact letter_ok h
theorem toNat_of {l : Lin} {n : Nat} (h : natK l = some n) : (l.val D).toNat = n := by rw [natK_ok (D := D) h]; rfl
theorem three {o n j : Lin} {t : Lt} {g : Nat → Nat → Nat → A1} {x : A1} (h : (match natK o, natK n, natK j with | some o, some n, some j => some (g o n j) | _, _, _ => letter t) = some x)
  (hg : ∀ o' n' j', (o.val D).toNat = o' → (n.val D).toNat = n' → (j.val D).toNat = j' → dW D q (g o' n' j') = t.den D q) : dW D q x = t.den D q := by
 cases h1 : natK o with
 | none => rw [h1] at h; exact letter_ok h
 | some o' =>
  cases h2 : natK n with
  | none => rw [h1, h2] at h; exact letter_ok h
  | some n' =>
   cases h3 : natK j with
   | none => rw [h1, h2, h3] at h; exact letter_ok h
   | some j' =>
    rw [h1, h2, h3] at h
    injection h with h
    subst h
    exact hg _ _ _ (toNat_of h1) (toNat_of h2) (toNat_of h3)
theorem back_ok {t : Lt} {x : A1} (h : back t = some x) : dW D q x = t.den D q := by
 cases t with
 | num k l => exact back_num h
 | str l => exact back_str h
 | sl k o n j =>
  refine three (o := o) (n := n) (j := j) (g := fun o n j => .sl k o n (.un j)) h (fun o' n' j' h1 h2 h3 => ?_)
  subst h1 h2 h3
  rfl
 | sle k o n j =>
  refine three (o := o) (n := n) (j := j) (g := fun o n j => .sl k o n (.ex j)) h (fun o' n' j' h1 h2 h3 => ?_)
  subst h1 h2 h3
  rfl
 | ptr k o =>
  have h : (match natK o with | some o => some (.p k o) | none => letter (.ptr k o)) = some x := h
  cases h1 : natK o with
  | none => rw [h1] at h; exact letter_ok h
  | some o' =>
   rw [h1] at h
   injection h with h
   subst h
   exact congrArg (A1.p k) (toNat_of h1).symm
 | stl k o z a j =>
  refine three (o := o) (n := a) (j := j) (g := fun o n j => .stl k o z n j) h (fun o' n' j' h1 h2 h3 => ?_)
  subst h1 h2 h3
  rfl
 | val k v j => exact letter_ok h
 | byt k v j => exact letter_ok h
 | crs v j => exact letter_ok h
 | slp k c d l => exact letter_ok h
 | slq k n c d l => exact letter_ok h
 | plc n c d l => exact letter_ok h
theorem noJ : ∀ {l : List Nat} {p : Nat × List Sym}, objL l = some p → junkL l = none
 | [], _, _ => rfl
 | 0 :: _, _, _ => rfl
 | 1 :: _, _, _ => rfl
 | (_ + 2) :: _, _, h => nomatch h
theorem oW_O {i : Nat} {t : Nat} {l : List Sym} (h : decO i = some (t, l)) : oW D q i = mkO t (strB D q l) := by
 show jkU D (junkL (decN 4096 i)) (objU D q (decO i)) = _
 rw [noJ (show objL (decN 4096 i) = some (t, l) from h), h]
 rfl
theorem oW_J {i : Nat} {j : Jk} (h : decJ i = some j) : oW D q i = mkJ (j.len D) := by
 show jkU D (decJ i) _ = _
 rw [h]
 rfl
theorem decO_le {i t : Nat} {l : List Sym} (h : decO i = some (t, l)) : t ≤ 1 := by
 unfold decO at h
 generalize decN 4096 i = m at h
 match m, h with
 | 0 :: _, h => injection h with h; injection h with h _; omega
 | 1 :: _, h => injection h with h; injection h with h _; omega
/-! ### Cells -/
theorem cellsU_app (l m : List Nat) : cellsU (l ++ m) = cellsU l ++ cellsU m := by unfold cellsU; rw [List.map_append]
theorem symOf_ok {a : A1} {s : Sym} (h : symOf a = some s) (hw : s.wf K = true) (hK : KdOk K D) : cellsU (s.bytes D q) = [dW D q a] := by
 unfold symOf at h
 split at h
 · rename_i n
   cases hb : Nat.blt n 256 with
   | false => simp [hb] at h
   | true =>
    simp only [hb, cond_true, Option.some.injEq] at h
    subst h
    rfl
 · rename_i i
   split at h
   · rename_i l hl
     cases h
     show [A1.i .u8 (((l.val D).toNat : Nat) : Int)] = [valU D q (decLt i)]
     rw [hl]
     have hw : (l.ge K 0 && l.le K 255) = true := hw
     rw [Bool.and_eq_true] at hw
     have := ge_ok hK hw.1
     rw [Int.toNat_of_nonneg this]
     rfl
   · rename_i v j hl
     cases h
     show [A1.i .u8 ((v.val D q / 256 ^ j % 256 : Nat) : Int)] = [valU D q (decLt i)]
     rw [hl]
     rfl
   · cases h
 · cases h
theorem cellOf_ok {a : A1} {s : Sym} (h : cellOf s = some a) (hw : s.wf K = true) (hK : KdOk K D) : cellsU (s.bytes D q) = [dW D q a] := by
 unfold cellOf at h
 split at h
 · rename_i n
   cases h
   rfl
 · rename_i l
   rw [back_ok (D := D) (q := q) h]
   have hw : (l.ge K 0 && l.le K 255) = true := hw
   rw [Bool.and_eq_true] at hw
   have := ge_ok hK hw.1
   show [A1.i .u8 (((l.val D).toNat : Nat) : Int)] = _
   rw [Int.toNat_of_nonneg this]
   rfl
 · rename_i i j
   rw [letter_ok (D := D) (q := q) h]
   rfl
 · cases h
theorem syms_ok (hK : KdOk K D) : ∀ {l : List A1} {m : List Sym}, allSome symOf l = some m → wfS K m = true → cellsU (strB D q m) = l.map (dW D q)
 | [], m, h, _ => by cases h; rfl
 | a :: l, m, h, hw => by
  unfold allSome at h
  cases h1 : symOf a with
  | none => simp [h1] at h
  | some s =>
   cases h2 : allSome symOf l with
   | none => simp [h1, h2] at h
   | some r =>
    simp only [h1, h2, Option.some.injEq] at h
    subst h
    obtain ⟨hw1, hw2⟩ := wfS_cons hw
    show cellsU (s.bytes D q ++ strB D q r) = _
    rw [cellsU_app, symOf_ok h1 hw1 hK, syms_ok hK h2 hw2]
    rfl
theorem wf_byz (n : Nat) (hn : n < 256) : (Sym.by n).wf K = true := Nat.ble_eq_true_of_le hn
theorem mulLo_z (a b : Nat) : mulLo 0 a b = 0 := by
 show ((0 * a : Nat) : Int) = 0
 simp
theorem ge_k (n : Nat) : (Lin.k (n : Int)).ge K 0 = true := by
 have h : (Lin.k (n : Int)).lo K = Int.ofNat n := by
  show ((n : Int) + mulLo 0 K.ls K.hs + mulLo 0 1 4 + mulLo 0 1 4) = Int.ofNat n
  rw [mulLo_z, mulLo_z]
  simp
 unfold Lin.ge
 rw [h]
 rfl
theorem wf_zRun {n : Nat} {l : List Sym} (h : wfS K l = true) : wfS K (zRun n l) = true := by
 unfold zRun
 cases Nat.ble 8 n with
 | true => exact wfS_mk (ge_k n) h
 | false =>
  show wfS K (List.replicate n (.by 0) ++ l) = true
  induction n with
  | zero => exact h
  | succ n ih => exact wfS_mk (wf_byz 0 (by decide)) ih
theorem wf_zipZ : ∀ {l : List Sym} {n : Nat}, wfS K l = true → wfS K (zipZ l n) = true
 | [], n, _ => wf_zRun rfl
 | a :: l, n, h => by
  obtain ⟨h1, h2⟩ := wfS_cons h
  unfold zipZ
  split
  · exact wf_zipZ h2
  · exact wf_zRun (wfS_mk h1 (wf_zipZ h2))
/-- An object, its letters told: those of its cells too. -/
def deepC [Sy] : AO → AO
 | .cells t l => .cells t (l.map A1.den)
 | .row t z l => .row t z (l.map A1.den)
 | o => o
def deepO [Sy] (o : AO) : AO := deepC o.den
abbrev dO (D : D2) (q : Nat → Nat) (o : AO) : AO := @deepO (syW D q) o
theorem den_cellsU {S : Sy} (l : List Nat) : (cellsU l).map (@A1.den S) = cellsU l := by
 unfold cellsU
 rw [List.map_map]
 rfl
theorem dO_mkO (t : Nat) (l : List Nat) : @deepC (syW D q) (mkO t l) = mkO t l := by
 unfold mkO
 split
 · show AO.row 5 1 _ = _
   rw [den_cellsU]
 · show AO.cells 5 _ = _
   rw [den_cellsU]
theorem viewO_ok (hK : KdOk K D) {o : AO} {t : Nat} {m : List Sym} (h : viewO K o = some (t, m)) : dO D q o = mkO t (strB D q m) ∧ wfS K m = true ∧ t ≤ 1 := by
 unfold viewO at h
 split at h
 · rename_i i
   split at h
   · rename_i t' l hd
     cases hw : wfS K l with
     | false => simp [hw] at h
     | true =>
      simp only [hw, cond_true, Option.some.injEq, Prod.mk.injEq] at h
      obtain ⟨rfl, rfl⟩ := h
      refine ⟨?_, hw, decO_le hd⟩
      show @deepC (syW D q) (oW D q i) = _
      rw [oW_O hd]
      exact dO_mkO _ _
   · cases h
 · rename_i l
   cases ha : allSome symOf l with
   | none => simp [ha] at h
   | some r =>
    simp only [ha, Option.bind_some] at h
    cases hw : wfS K r with
    | false => simp [hw] at h
    | true =>
     simp only [hw, cond_true, Option.some.injEq, Prod.mk.injEq] at h
     obtain ⟨rfl, rfl⟩ := h
     refine ⟨?_, wf_zipZ hw, by decide⟩
     rw [strB_zipZ]
     show AO.row 5 1 (l.map (dW D q)) = AO.row 5 1 (cellsU (strB D q r))
     rw [syms_ok hK ha hw]
 · rename_i l
   cases ha : allSome symOf l with
   | none => simp [ha] at h
   | some r =>
    simp only [ha, Option.bind_some] at h
    cases hw : wfS K r with
    | false => simp [hw] at h
    | true =>
     simp only [hw, cond_true, Option.some.injEq, Prod.mk.injEq] at h
     obtain ⟨rfl, rfl⟩ := h
     refine ⟨?_, wf_zipZ hw, by decide⟩
     rw [strB_zipZ]
     show AO.cells 5 (l.map (dW D q)) = AO.cells 5 (cellsU (strB D q r))
     rw [syms_ok hK ha hw]
 · cases h
theorem dO_y {i t : Nat} {l : List Sym} (h : decO i = some (t, l)) : dO D q (.y i) = mkO t (strB D q l) := by
 show @deepC (syW D q) (oW D q i) = _
 rw [oW_O h]
 exact dO_mkO _ _
theorem pickO_ok {i t : Nat} {l : List Sym} {o : AO} (h : pickO t l i = some o) : dO D q o = mkO t (strB D q l) := by
 unfold pickO at h
 cases hd : decO i with
 | none => rw [hd] at h; cases h
 | some p =>
  obtain ⟨t', l'⟩ := p
  rw [hd] at h
  have h : (bif Nat.beq t t' && eqS l' l then some (AO.y i) else none) = some o := h
  cases hc : Nat.beq t t' && eqS l' l with
  | false => rw [hc] at h; cases h
  | true =>
   rw [hc, cond_true] at h
   injection h with h
   subst h
   rw [Bool.and_eq_true] at hc
   rw [dO_y hd, eqS_ok hc.2, ← Nat.eq_of_beq_eq_true hc.1]
theorem letterO_ok {t : Nat} {l : List Sym} {o : AO} (h : letterO t l = some o) : dO D q o = mkO t (strB D q l) := by
 unfold letterO at h
 rw [fN_id] at h
 exact pickO_ok h
theorem dO_cells {t : Nat} {m : List Nat} : dO D q (if t = 0 then .row 5 1 (cellsU m) else .cells 5 (cellsU m)) = mkO t m := by
 cases t with
 | zero => exact dO_mkO 0 m
 | succ t => exact dO_mkO (t + 1) m
theorem backO_ok {t : Nat} {l : List Sym} {o : AO} (h : backO t l = some o) : dO D q o = mkO t (strB D q l) := by
 unfold backO at h
 split at h
 · rename_i m hm
   injection h with h
   subst h
   rw [allBy_ok hm]
   exact dO_cells
 · exact letterO_ok h
end
end Go.Ev
namespace Go.Ev
open Go Go.RowKit Go.Proofs
theorem t23 : Tryz.prog.underlying 23 = some (.slice 5) := by kernel_rfl
theorem t5 : Tryz.prog.underlying 5 = some (.int .u8) := by kernel_rfl
theorem t9 : Tryz.prog.underlying 9 = some .string := by kernel_rfl
theorem t40 : Tryz.prog.underlying 40 = some (.slice 3) := by kernel_rfl
theorem t3 : Tryz.prog.underlying 3 = some (.int .i64) := by kernel_rfl
theorem t35 : Tryz.prog.underlying 35 = some (.int .u64) := by kernel_rfl
theorem t34 : Tryz.prog.underlying 34 = some (.int .u32) := by kernel_rfl
theorem s3 : sizeT Tryz.prog 3 = some 1 := by kernel_rfl
theorem g3 : isAggT Tryz.prog 3 = some false := by kernel_rfl
theorem s5 : sizeT Tryz.prog 5 = some 1 := by kernel_rfl
theorem g5 : isAggT Tryz.prog 5 = some false := by kernel_rfl
theorem z5 : zeroT Tryz.prog 5 = some (.one (.i .u8 0)) := by kernel_rfl
theorem b5 : bytesT Tryz.prog 5 = some 1 := by kernel_rfl
theorem el23 : elemT Tryz.prog 23 = some 5 := by kernel_rfl
end Go.Ev
