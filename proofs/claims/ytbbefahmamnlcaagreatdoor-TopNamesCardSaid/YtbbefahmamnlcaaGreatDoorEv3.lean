/- A reckoner for closed runs: the reckoner itself. -/
import Derived.Test.YtbbefahmamnlcaaGreatDoorEv2
set_option linter.unusedVariables false
set_option linter.unusedSimpArgs false
set_option linter.unusedSectionVars false
namespace Go.Ev
open Go Go.RowKit
def A2.cells : A2 → List A1
 | .one x => [x]
 | .agg l => l
def undefA : AV := .tup []
def asA1 : Value → Option A1
 | .bool x => some (.b x)
 | .int k n => some (.i k n)
 | .string s => some (.s (s.data.toList.map UInt8.toNat))
 | .pointer none => some .nilp
 | .slice none 0 0 => some .nils
 | .map none => some .nilm
 | .nilFunc => some .nilf
 | .nilIface => some .nili
 | .func (.func f) first caps => if first.size = 0 ∧ caps.size = 0 then some (.f f) else none
 | _ => none
def allSome {α β : Type} (f : α → Option β) : List α → Option (List β)
 | [] => some []
 | a :: l => match f a, allSome f l with
   | some b, some m => some (b :: m)
   | _, _ => none
def asA2 : Value → Option A2
 | .agg cs => (allSome asA1 cs.toList).map .agg
 | v => (asA1 v).map .one
def asAV : Value → Option AV
 | .tuple vs => if vs.size = 0 then some (.tup []) else none
 | v => (asA2 v).map .v
/-- A frame's temporaries. -/
abbrev Fr := Tr AV
abbrev DT : Nat := 8
def evA (A : Fr) : Operand → Option AV
 | .tmp t => bif Nat.blt t 256 then Tr.get DT A t else none
 | .const v => asAV v
 | .func f => some (.v (.one (.f f)))
 | .global _ => none
/-- What an operation turns in memory. -/
inductive U where
 | put (k : Nat) (o : AO)
 | new (o : AO)
 | del (k : Nat)
def apU (h : Hp) : List U → Hp
 | [] => h
 | .put k o :: r => apU (h.put k o) r
 | .new o :: r => apU (h.new o) r
 | .del k :: r => apU (h.del k) r
section
variable (P : Program)
def sizeT (t : TypeId) : Option Nat := (P.info? t).map (·.size)
def bytesT (t : TypeId) : Option Nat := (P.info? t).map (·.bytes)
def zeroT (t : TypeId) : Option A2 := ((P.info? t).bind (·.zero)).bind asA2
def isAggT (t : TypeId) : Option Bool := (P.underlying t).map fun d => match d with | .struct _ | .array _ _ => true | _ => false
def rowOf : AO → Option (List A1)
 | .cells _ l => some l
 | .row _ _ l => some l
 | _ => none
def reRow : AO → List A1 → Option AO
 | .cells t _, l => some (.cells t l)
 | .row t z _, l => some (.row t z l)
 | _, _ => none
/-- n cells from o on. -/
def seg (l : List A1) (o n : Nat) : Option (List A1) := if o + n ≤ l.length then some ((l.drop o).take n) else none
def over (l : List A1) (o : Nat) (cs : List A1) : Option (List A1) := if o + cs.length ≤ l.length then some (l.take o ++ cs ++ l.drop (o + cs.length)) else none
def evLoad (t : TypeId) (x : AV) (h : Hp) : Option AV :=
 match x with
 | .v (.one (.p k o)) =>
  match (h.get k).bind rowOf, isAggT P t with
  | some l, some false => (l[o]?).map fun y => .v (.one y)
  | some l, some true => match sizeT P t with
    | some n => (seg l o n).map fun m => .v (.agg m)
    | none => none
  | _, _ => none
 | _ => none
def evStore (t : TypeId) (x y : AV) (h : Hp) : Option (List U) :=
 match x, y with
 | .v (.one (.p k o)), .v w =>
  match h.get k, sizeT P t with
  | some q, some n => if w.cells.length = n then
     match rowOf q with
     | some l => match over l o w.cells with
       | some l' => (reRow q l').map fun q' => [.put k q']
       | none => none
     | none => none
    else none
  | _, _ => none
 | _, _ => none
def fieldOff (s : TypeId) (f : Nat) : Option (Nat × TypeId) :=
 match P.underlying s with
 | some (.struct fs) => (fs[f]?).map fun x => (x.offset, x.type)
 | _ => none
def intOf : AV → Option Int
 | .v (.one (.i _ n)) => some n
 | _ => none
def elemT (t : TypeId) : Option TypeId :=
 match P.underlying t with
 | some (.slice e) => some e
 | _ => none
def evIndexAddr (t : TypeId) (x i : AV) : Option AV :=
 match P.underlying t, x, intOf i with
 | some (.slice e), .v (.one (.sl k o n c)), some j => if 0 ≤ j ∧ j < n then (sizeT P e).map fun z => .v (.one (.p k (o + j.toNat * z))) else none
 | some (.array n e), .v (.one (.p k o)), some j => if 0 ≤ j ∧ j < n then (sizeT P e).map fun z => .v (.one (.p k (o + j.toNat * z))) else none
 | _, _, _ => none
def bnd (d : Nat) : Option AV → Option Nat
 | none => some d
 | some x => (intOf x).bind fun i => if 0 ≤ i then some i.toNat else none
def evSlice (t : TypeId) (x : AV) (lo hi mx : Option AV) : Option AV :=
 match P.underlying t, x, mx with
 | some .string, .v (.one (.s l)), none =>
  match bnd 0 lo, bnd l.length hi with
  | some a, some b => if a ≤ b ∧ b ≤ l.length then some (.v (.one (.s ((l.drop a).take (b - a))))) else none
  | _, _ => none
 | some (.slice e), .v (.one .nils), none =>
  match sizeT P e, bnd 0 lo, bnd 0 hi with
  | some _, some 0, some 0 => some (.v (.one .nils))
  | _, _, _ => none
 | some (.slice e), .v (.one (.sl k o n c)), none =>
  match sizeT P e, bnd 0 lo, bnd n hi, c with
  | some z, some a, some b, .ex m => if a ≤ b ∧ b ≤ m ∧ a < m then some (.v (.one (.sl k (o + a * z) (b - a) (.ex (m - a))))) else none
  | some z, some a, some b, .un j => if a ≤ b ∧ b ≤ n ∧ a < n then some (.v (.one (.sl k (o + a * z) (b - a) (.un (j + a))))) else if a = n ∧ b = n then some (.v (.one (.stl k o z a j))) else none
  | _, _, _, _ => none
 | _, _, _ => none
/-- The cells of what is appended or copied. -/
def cellsIn (h : Hp) (z : Nat) : AV → Option (List A1)
 | .v (.one (.sl k o n _)) => ((h.get k).bind rowOf).bind fun l => seg l o (n * z)
 | _ => none
def lenIn : AV → Option Nat
 | .v (.one .nils) => some 0
 | .v (.one (.sl _ _ n _)) => some n
 | _ => none
def mkRow (h : Hp) (e z : Nat) (l : List A1) (n : Nat) (us : List U) : Option (AV × List U) :=
 match zeroT P e, bytesT P e with
 | some zz, some b => if h.n < 2 ^ D ∧ zz.cells.length = z ∧ n * b ≤ 140737488355328 ∧ n ≤ 1000000 ∧ l.length = n * z then some (.v (.one (.sl h.n 0 n (.un 0))), us ++ [.new (.row e z l)]) else none
 | _, _ => none
def evAppend (h : Hp) (t u : TypeId) (s x : AV) : Option (AV × List U) :=
 if t = u then
 match elemT P t, x with
 | some e, .v (.one (.sl _ _ m _)) =>
  match sizeT P e with
  | some z =>
   match cellsIn h z x with
   | none => none
   | some cs =>
    match s with
    | .v (.one .nils) => if m = 0 then none else mkRow P h e z cs m []
    | .v (.one (.sl k o n (.ex c))) =>
      if n + m ≤ c then none
      else match cellsIn h z s with
       | some old => mkRow P h e z (old ++ cs) (n + m) []
       | none => none
    | .v (.one (.sl k 0 n (.un 0))) =>
      if m = 0 then none else
      match h.get k with
      | some (.row t' z' l) => if t' = e ∧ z' = z ∧ n * z ≤ l.length then mkRow P h e z (l.take (n * z) ++ cs) (n + m) [.del k] else none
      | _ => none
    | _ => none
  | none => none
 | _, _ => none
 else none
def evCopy (h : Hp) (t : TypeId) (d x : AV) : Option (AV × List U) :=
 match elemT P t with
 | none => none
 | some e =>
  match sizeT P e, d, x with
  | some z, .v (.one (.sl k o a _)), .v (.one (.sl _ _ b _)) =>
   match cellsIn h z x, h.get k with
   | some cs, some q => match rowOf q with
      | some l => match over l o (cs.take (Nat.min b a * z)) with
        | some l' => (reRow q l').map fun q' => (.v (.one (.i .i64 (Nat.min b a : Nat))), [.put k q'])
        | none => none
      | none => none
   | _, _ => none
  | _, _, _ => none
def sameKey : A1 → A1 → Bool
 | .i k a, .i k' b => if k = k' then a == b else false
 | _, _ => false
def keyOk : Option TypeDesc → A1 → Bool
 | some (.int _), .i _ _ => true
 | some .string, .s _ => true
 | _, _ => false
/-- The one entry of a map, if it is the key's; or none, of an empty one. -/
def findE (k : A1) : List (A1 × A2 × Nat) → Option (Option A2)
 | [] => some none
 | e :: _ => match sameKey k e.1 with
   | true => some (some e.2.1)
   | false => none
def mapOf (h : Hp) : AV → Option (List (A1 × A2 × Nat))
 | .v (.one (.m k)) => match h.get k with
   | some (.map es _) => some es
   | _ => none
 | _ => none
def evLookup (h : Hp) (t : TypeId) (x i : AV) (ok : Bool) : Option AV :=
 match P.underlying t, mapOf h x, i with
 | some (.map kt e), some es, .v (.one key) =>
  match keyOk (P.underlying kt) key, findE key es with
  | true, some (some v) => some (if ok then .tup [v, .one (.b true)] else .v v)
  | true, some none => match zeroT P e with
    | some z => some (if ok then .tup [z, .one (.b false)] else .v z)
    | none => none
  | _, _ => none
 | _, _, _ => none
def evMapUpdate (h : Hp) (t : TypeId) (x i v : AV) : Option (List U) :=
 match P.underlying t, x, i, v with
 | some (.map kt _), .v (.one (.m k)), .v (.one key), .v w =>
  match keyOk (P.underlying kt) key, h.get k with
  | true, some (.map es cl) => match findE key es with
    | some none => some [.put k (.map (es ++ [(key, w, cl)]) (cl + 1))]
    | _ => none
  | _, _ => none
 | _, _, _, _ => none
def zeros (z : List A1) (n : Nat) : List A1 := (List.replicate n z).flatten
def evMakeSlice (h : Hp) (t : TypeId) (l c : AV) : Option (AV × List U) :=
 match elemT P t, intOf l, intOf c with
 | some e, some a, some b =>
  match zeroT P e, sizeT P e, bytesT P e with
  | some z, some n, some y => if 0 ≤ a ∧ a ≤ b ∧ b ≤ 1000000 ∧ y ≤ 1000000 ∧ z.cells.length = n ∧ h.n < 2 ^ D then some (.v (.one (.sl h.n 0 a.toNat (.ex b.toNat))), [.new (.cells e (zeros z.cells b.toNat))]) else none
  | _, _, _ => none
 | _, _, _ => none
def fillF (place : Nat → Option (Nat × Nat)) (cs : List A1) : List (Nat × A2) → Option (List A1)
 | [] => some cs
 | (i, v) :: r => match place i with
   | some (o, n) => if v.cells.length = n then match over cs o v.cells with
      | some cs' => fillF place cs' r
      | none => none
     else none
   | none => none
def asV2 : AV → Option A2
 | .v x => some x
 | _ => none
def evBuild (t : TypeId) (ps : List (Nat × AV)) : Option AV :=
 match zeroT P t, P.underlying t, allSome (fun p => (asV2 p.2).map fun x => (p.1, x)) ps with
 | some z, some (.struct fs), some qs => match fs.toList.all fun f => (sizeT P f.type).isSome with
   | true => (fillF (fun i => (fs[i]?).bind fun f => (sizeT P f.type).map fun n => (f.offset, n)) z.cells qs).map fun l => .v (.agg l)
   | false => none
 | some z, some (.array _ e), some qs => match sizeT P e with
   | some n => (fillF (fun i => some (i * n, n)) z.cells qs).map fun l => .v (.agg l)
   | none => none
 | _, _, _ => none
def evBuildSlice (h : Hp) (t : TypeId) (n : Nat) (ps : List (Nat × AV)) : Option (AV × List U) :=
 match elemT P t, allSome (fun p => (asV2 p.2).map fun x => (p.1, x)) ps with
 | some e, some qs => match sizeT P e, zeroT P e with
   | some z, some zz => if zz.cells.length = z ∧ n * z ≤ 1000000 ∧ h.n < 2 ^ D then
      match fillF (fun i => some (i * z, z)) (zeros zz.cells n) qs with
      | some l => some (.v (.one (.sl h.n 0 n (.ex n))), [.new (.cells e l)])
      | none => none
     else none
   | _, _ => none
 | _, _ => none
def evNew (h : Hp) (t : TypeId) (x : A2) : Option (AV × List U) := if h.n < 2 ^ D then some (.v (.one (.p h.n 0)), [.new (.cells t x.cells)]) else none
def bitsI (f : Nat → Nat → Nat) (k : IntKind) (x y : Int) : Int := k.wrap (f (BitVec.ofInt k.bits x).toNat (BitVec.ofInt k.bits y).toNat)
def lessL : List Nat → List Nat → Bool
 | _, [] => false
 | [], _ :: _ => true
 | a :: x, b :: y => a < b || (a == b && lessL x y)
def cmpI (op : BinOp) (x y : Int) : Option Bool :=
 match op with
 | .eql => some (x == y)
 | .neq => some (x != y)
 | .lss => some (decide (x < y))
 | .leq => some (decide (x ≤ y))
 | .gtr => some (decide (x > y))
 | .geq => some (decide (x ≥ y))
 | _ => none
/-- == at a type, of values that are no numbers and no texts. -/
def evEq (t : TypeId) (x y : A1) : Option Bool :=
 match P.underlying t, x, y with
 | some (.pointer _), .nilp, .nilp => some true
 | some (.pointer _), .p _ _, .nilp => some false
 | some (.slice _), .sl .., .nils => some false
 | some (.interface _), .ifc _ _, .nili => some false
 | _, _, _ => none
def evBin (op : BinOp) (t : TypeId) (x y : AV) : Option AV :=
 match x, y with
 | .v (.one (.i k a)), .v (.one (.i k' c)) =>
  match op with
  | .shl => if 0 ≤ c then some (.v (.one (.i k (k.wrap (a * 2 ^ (min c.toNat k.bits)))))) else none
  | .shr => if 0 ≤ c then some (.v (.one (.i k (a.fdiv (2 ^ (min c.toNat k.bits)))))) else none
  | _ => if k = k' then
    match op with
    | .add => some (.v (.one (.i k (k.wrap (a + c)))))
    | .sub => some (.v (.one (.i k (k.wrap (a - c)))))
    | .mul => some (.v (.one (.i k (k.wrap (a * c)))))
    | .quo => if c = 0 then none else some (.v (.one (.i k (k.wrap (a.tdiv c)))))
    | .rem => if c = 0 then none else some (.v (.one (.i k (a.tmod c))))
    | .and => some (.v (.one (.i k (bitsI (· &&& ·) k a c))))
    | .or => some (.v (.one (.i k (bitsI (· ||| ·) k a c))))
    | .xor => some (.v (.one (.i k (bitsI (· ^^^ ·) k a c))))
    | op => (cmpI op a c).map fun r => .v (.one (.b r))
   else none
 | .v (.one (.s a)), .v (.one (.s c)) =>
  match op with
  | .add => if a.length + c.length ≤ 1000000 then some (.v (.one (.s (a ++ c)))) else none
  | .eql => some (.v (.one (.b (a == c))))
  | .neq => some (.v (.one (.b (!(a == c)))))
  | _ => none
 | .v (.one a), .v (.one c) =>
  match op, evEq P t a c with
  | .eql, some r => some (.v (.one (.b r)))
  | .neq, some r => some (.v (.one (.b (!r))))
  | _, _ => none
 | _, _ => none
def evUn (op : UnOp) (x : AV) : Option AV :=
 match op, x with
 | .not, .v (.one (.b b)) => some (.v (.one (.b (!b))))
 | .xor, .v (.one (.i k n)) => some (.v (.one (.i k (bitsI (· ^^^ ·) k (if k.signed then -1 else k.max) n))))
 | _, _ => none
def u8s : List A1 → Option (List Nat)
 | [] => some []
 | .i .u8 (.ofNat n) :: l => bif Nat.blt n 256 then (u8s l).map fun m => n :: m else none
 | _ => none
def evConvP (src dst : TypeId) (x : AV) : Option AV :=
 match P.underlying src, P.underlying dst, x with
 | some _, some (.int k), .v (.one (.i _ n)) => some (.v (.one (.i k (k.wrap n))))
 | _, _, _ => none
def evConvM (h : Hp) (src dst : TypeId) (x : AV) : Option (AV × List U) :=
 match P.underlying src, P.underlying dst, x with
 | some .string, some (.slice e), .v (.one (.s l)) =>
  match P.underlying e with
  | some (.int .u8) => if h.n < 2 ^ D ∧ l.length ≤ 1000000 then some (.v (.one (.sl h.n 0 l.length (.un 0))), [.new (.row e 1 (l.map fun (c : Nat) => .i .u8 (c : Int)))]) else none
  | _ => none
 | some (.slice _), some (.slice e), .v (.one (.sl k o n c)) => if src = dst then match P.underlying e, h.get k with
   | some (.int .u8), some q => match rowOf q with
     | some _ => some (x, [.put k q])
     | none => none
   | _, _ => none
  else none
 | some (.slice e), some .string, .v (.one (.sl k o n c)) =>
  match P.underlying e, cellsIn h 1 x with
  | some (.int .u8), some cs => (u8s cs).map fun l => (.v (.one (.s l)), [])
  | _, _ => none
 | _, _, _ => none
def evRange (h : Hp) (t : TypeId) (x : AV) : Option (AV × List U) :=
 if h.n < 2 ^ D then
 match P.underlying t, x with
 | some .string, .v (.one (.s l)) => some (.v (.one (.p h.n 0)), [.new (.siter l 0)])
 | some (.map _ _), .v (.one (.m k)) => match h.get k with
   | some (.map _ cl) => some (.v (.one (.p h.n 0)), [.new (.iter k cl [] cl)])
   | _ => none
 | _, _ => none
 else none
def evNext (h : Hp) (x : AV) (isS : Bool) : Option (AV × List U) :=
 match x, isS with
 | .v (.one (.p k 0)), true => match h.get k with
   | some (.siter s pos) => match s[pos]? with
     | some c => if c < 128 then some (.tup [.one (.b true), .one (.i .i64 pos), .one (.i .i32 c)], [.put k (.siter s (pos + 1))]) else none
     | none => some (.tup [.one (.b false)], [])
   | _ => none
 | .v (.one (.p k 0)), false => match h.get k with
   | some (.iter m since seen last) => match h.get m with
     | some (.map es cl) =>
       let left := es.filter fun e => !seen.contains e.2.2
       let old := left.filter fun e => decide (e.2.2 < since)
       let new := left.filter fun e => decide (e.2.2 ≥ since)
       if !seen.isEmpty && !es.isEmpty && es.all (fun e => decide (e.2.2 ≥ last)) then none else
       match old, new with
       | [], [] => some (.tup [.one (.b false)], [])
       | [e], [] => some (.tup [.one (.b true), .one e.1, e.2.1], [.put k (.iter m since (seen ++ [e.2.2]) cl)])
       | _, _ => none
     | _ => none
   | _ => none
 | _, _ => none
def evEntry (h : Hp) (x : AV) : Option AV :=
 match x with
 | .v (.one (.p k 0)) => match h.get k with
   | some (.iter m _ seen st) => match h.get m, seen.getLast? with
     | some (.map es cl), some b => if cl = st then (es.find? fun e => e.2.2 == b).map fun e => .tup [.one e.1, e.2.1] else none
     | _, _ => none
   | _ => none
 | _ => none
def evLenP (t : TypeId) (x : AV) : Option AV :=
 match P.underlying t, x with
 | some .string, .v (.one (.s l)) => some (.v (.one (.i .i64 l.length)))
 | some (.slice _), .v (.one (.s _)) => none
 | some (.slice _), y => (lenIn y).map fun n => .v (.one (.i .i64 n))
 | _, _ => none
def evLenM (h : Hp) (t : TypeId) (x : AV) : Option AV :=
 match P.underlying t, x with
 | some (.map _ _), y => (mapOf h y).map fun es => .v (.one (.i .i64 es.length))
 | _, _ => none
def evClear (h : Hp) (t : TypeId) (x : AV) : Option (List U) :=
 match P.underlying t, x with
 | some (.map _ _), .v (.one (.m k)) => match h.get k with
   | some (.map _ cl) => some [.put k (.map [] cl)]
   | _ => none
 | _, _ => none
def evDelete (h : Hp) (t : TypeId) (x k : AV) : Option (List U) :=
 match P.underlying t, x, k with
 | some (.map kt _), .v (.one (.m m)), .v (.one key) => match keyOk (P.underlying kt) key, h.get m with
   | true, some (.map [] cl) => some [.put m (.map [] cl)]
   | _, _ => none
 | _, _, _ => none
def evField (t : TypeId) (x : AV) (f : Nat) : Option AV :=
 match fieldOff P t f, x with
 | some (o, ty), .v (.agg l) => match isAggT P ty, sizeT P ty with
   | some true, some n => (seg l o n).map fun m => .v (.agg m)
   | _, _ => none
 | _, _ => none
def evIndex (t : TypeId) (x i : AV) : Option AV :=
 match P.underlying t, x, intOf i with
 | some .string, .v (.one (.s l)), some j => if 0 ≤ j then (l[j.toNat]?).map fun c => .v (.one (.i .u8 c)) else none
 | some (.array n e), .v (.agg l), some j => if 0 ≤ j ∧ j < n then match isAggT P e, sizeT P e with
    | some false, some z => (l[j.toNat * z]?).map fun y => .v (.one y)
    | _, _ => none
   else none
 | _, _, _ => none
def foldMM (f : Int → Int → Int) : List AV → Option AV
 | .v (.one (.i k a)) :: r => go k a r
 | _ => none
  where go (k : IntKind) (a : Int) : List AV → Option AV
 | [] => some (.v (.one (.i k a)))
 | .v (.one (.i _ b)) :: r => go k (f a b) r
 | _ => none
def isIface (t : TypeId) : Option Bool := (P.underlying t).map fun d => match d with | .interface _ => true | _ => false
def evMakeIface (h : Hp) (t : TypeId) (x : AV) : Option (AV × List U) :=
 match isIface P t, x with
 | some false, .v w => if h.n < 2 ^ D then some (.v (.one (.ifc t h.n)), [.new (.ifc t w)]) else none
 | _, _ => none
def evAssert (h : Hp) (x : AV) (want : TypeId) (ok : Bool) : Option AV :=
 match isIface P want, x with
 | some false, .v (.one (.ifc t k)) => if t = want then match h.get k with
    | some (.ifc _ w) => some (if ok then .tup [w, .one (.b true)] else .v w)
    | _ => none
   else if ok then (zeroT P want).map fun z => .tup [z, .one (.b false)] else none
 | _, _ => none
def byteL (h : Hp) (x : AV) : Option (List Nat) := match x with
 | .v (.one (.s l)) => some l
 | _ => (cellsIn h 1 x).bind u8s
def idxB (c : Nat) : List Nat → Nat → Int
 | [], _ => -1
 | a :: l, i => if a = c then (i : Int) else idxB c l (i + 1)
def cntB (c : Nat) : List Nat → Nat
 | [] => 0
 | a :: l => (if a = c then 1 else 0) + cntB c l
/-- A number, worked out before it goes on. -/
def fN {β : Type} (n : Nat) (k : Nat → β) : β := match n with
 | 0 => k 0
 | Nat.succ m => k (Nat.succ m)
def cBit (c : Nat) : Nat := bif Nat.beq (Nat.mod c 2) 1 then Nat.xor (Nat.div c 2) 2197175160 else Nat.div c 2
def cBits : Nat → Nat → Nat
 | 0, c => c
 | n + 1, c => fN (cBit c) fun c => cBits n c
/-- The sum of bytes, before its last turn. -/
def cBytes : List Nat → Nat → Nat
 | [], c => c
 | b :: l, c => fN (cBits 8 (Nat.xor c b)) fun c => cBytes l c
def byteExt (kind c : Nat) (l : List Nat) : Option AV := if kind = 1 then some (.v (.one (.i .i64 (idxB c l 0)))) else if kind = 2 then some (.v (.one (.i .i64 (cntB c l)))) else none
/-- Functions that are known by what they do: 1: the first place of a byte, 2: how many, 3: the sum of bytes. -/
def evExt (kind : Nat) (h : Hp) (xs : List AV) : Option AV := match xs with
 | [x, .v (.one (.i .u8 (.ofNat c)))] => if c < 256 then match byteL h x with
   | some l => byteExt kind c l
   | none => none
  else none
 | [.v (.one (.i .u32 (.ofNat c))), .v (.one (.sl k o n cp))] => if kind = 3 ∧ c < 4294967296 ∧ n ≤ 1000000 then match byteL h (.v (.one (.sl k o n cp))) with
   | some l => some (.v (.one (.i .u32 (Nat.xor 4294967295 (cBytes l (Nat.xor 4294967295 c)) : Nat))))
   | none => none
  else none
 | _ => none
/-- What reads no memory and turns none. -/
def evPure (A : Fr) (o : Oper) : Option AV :=
 match o.op with
 | .move x | .assign x => evA A x
 | .pick c x y => match evA A c with
   | some (.v (.one (.b true))) => evA A x
   | some (.v (.one (.b false))) => evA A y
   | _ => none
 | .build t ps => match allSome (fun p => (evA A p.2).map fun v => (p.1, v)) ps.toList with
   | some qs => evBuild P t qs
   | none => none
 | .nilCheck x => match evA A x with
   | some (.v (.one (.p k q))) => some (.v (.one (.p k q)))
   | _ => none
 | .binOp op t x y _ => (evA A x).bind fun a => (evA A y).bind fun b => match a, b with
   | .v (.one .nili), .v (.one .nili) => if Region.isConst x || Region.isConst y then match op, P.underlying t with
      | .eql, some (.interface _) => some (.v (.one (.b true)))
      | .neq, some (.interface _) => some (.v (.one (.b false)))
      | _, _ => none
     else none
   | _, _ => evBin P op t a b
 | .unOp op _ x => (evA A x).bind fun a => evUn op a
 | .convert s d x => (evA A x).bind fun a => evConvP P s d a
 | .slice t x lo hi mx =>
   match evA A x, lo.map (evA A), hi.map (evA A), mx.map (evA A) with
   | some v, some none, _, _ | some v, _, some none, _ | some v, _, _, some none => none
   | some v, a, b, c => evSlice P t v a.join b.join c.join
   | none, _, _, _ => none
 | .fieldAddr s x f => match evA A x, fieldOff P s f with
   | some (.v (.one (.p k q))), some (d, ty) => match sizeT P ty with
      | some (Nat.succ _) => some (.v (.one (.p k (q + d))))
      | _ => none
   | _, _ => none
 | .field t x f => (evA A x).bind fun v => evField P t v f
 | .indexAddr t x i => (evA A x).bind fun a => (evA A i).bind fun b => evIndexAddr P t a b
 | .index t x i => (evA A x).bind fun a => (evA A i).bind fun b => evIndex P t a b
 | .extract x i => match evA A x with
   | some (.tup l) => (l[i]?).map .v
   | _ => none
 | .call c => match c.callee, allSome (evA A) c.args.toList, c.argTypes.toList with
   | .builtin .len, some [x], t :: _ => evLenP P t x
   | .builtin .max, some xs, _ => foldMM (fun a b => if a < b then b else a) xs
   | .builtin .min, some xs, _ => foldMM (fun a b => if b < a then b else a) xs
   | _, _, _ => none
 | _ => none
/-- What reads memory and turns none: the value. -/
def evRead (A : Fr) (h : Hp) (o : Oper) : Option AV :=
 match o.op with
 | .load t x => (evA A x).bind fun v => evLoad P t v h
 | .lookup t x i ok => (evA A x).bind fun a => (evA A i).bind fun b => evLookup P h t a b ok
 | .entry x => (evA A x).bind fun a => evEntry h a
 | .typeAssert x _ want ok => (evA A x).bind fun a => evAssert P h a want ok
 | .call c => match c.callee, allSome (evA A) c.args.toList, c.argTypes.toList with
   | .builtin .len, some [x], t :: _ => evLenM P h t x
   | _, _, _ => none
 | _ => none
/-- What turns memory. -/
def evEff (A : Fr) (h : Hp) (o : Oper) : Option (AV × List U) :=
 match o.op with
 | .alloc e => match zeroT P e with
   | some z => if sizeT P e = some z.cells.length then evNew h e z else none
   | none => none
 | .box e x => match evA A x with
   | some (.v v) => evNew h e v
   | _ => none
 | .buildSlice t n ps => match allSome (fun p => (evA A p.2).map fun v => (p.1, v)) ps.toList with
   | some qs => evBuildSlice P h t n qs
   | none => none
 | .store t x y => (evA A x).bind fun a => (evA A y).bind fun b => (evStore P t a b h).map fun us => (undefA, us)
 | .convert s d x => (evA A x).bind fun a => evConvM P h s d a
 | .makeFunc (.func f) first caps => if first.size = 0 ∧ h.n < 2 ^ D then
     match allSome (evA A) caps.toList with
     | some vs => (allSome asV2 vs).map fun ws => (.v (.one (.clo h.n)), [.new (.clo f ws)])
     | none => none
    else none
 | .makeMap t none => if h.n < 2 ^ D then some (.v (.one (.m h.n)), [.new (.map [] 0)]) else none
 | .makeSlice t l c => (evA A l).bind fun a => (evA A c).bind fun b => evMakeSlice P h t a b
 | .makeInterface t x => (evA A x).bind fun a => evMakeIface P h t a
 | .mapUpdate T m k v | .insert T m k v => (evA A m).bind fun a => (evA A k).bind fun b => (evA A v).bind fun c => (evMapUpdate P h T a b c).map fun us => (undefA, us)
 | .range t x => (evA A x).bind fun a => evRange P h t a
 | .next x s => (evA A x).bind fun a => evNext h a s
 | .call c => match c.callee, allSome (evA A) c.args.toList, c.argTypes.toList with
   | .builtin .append, some [s, x], [t, u] => evAppend P h t u s x
   | .builtin .copy, some [d, x], t :: _ => evCopy P h t d x
   | .builtin .clear, some [x], t :: _ => (evClear P h t x).map fun us => (.tup [], us)
   | .builtin .delete, some [x, k], t :: _ => (evDelete P h t x k).map fun us => (.tup [], us)
   | _, _, _ => none
 | _ => none
/-- A call of a function of the program's: which, of what. -/
def evEnter (A : Fr) (h : Hp) (o : Oper) : Option (Nat × List AV) :=
 match o.op with
 | .call c => match c.callee, allSome (evA A) c.args.toList with
   | .value f, some xs => match evA A f with
     | some (.v (.one (.f g))) => some (g, xs)
     | some (.v (.one (.clo k))) => match h.get k with
       | some (.clo g caps) => some (g, xs ++ caps.map .v)
       | _ => none
     | _ => none
   | _, _ => none
 | _ => none
/-- The cells that a load reads: whether the value is a struct's or a row's; block, offset, how many. -/
def evSpot (A : Fr) (o : Oper) : Option (Bool × Nat × Nat × Nat) :=
 match o.op with
 | .load t x => match evA A x, isAggT P t, sizeT P t with
   | some (.v (.one (.p k q))), some false, _ => some (false, k, q, 1)
   | some (.v (.one (.p k q))), some true, some n => some (true, k, q, n)
   | _, _, _ => none
 | _ => none
end
end Go.Ev
