/- A reckoner for closed runs: code and calls. -/
import Derived.Test.YtbbefahmamnlcaaGreatDoorEv3
set_option linter.unusedVariables false
set_option linter.unusedSimpArgs false
set_option linter.unusedSectionVars false
namespace Go.Ev
open Go Go.RowKit
inductive X where
 | normal
 | exit (id : Nat)
 | ret
/-- A frame (its temporaries, how many) and the memory. -/
structure St where
 A : Fr
 n : Nat
 h : Hp
 deriving DecidableEq
def wantedA (ops : Array Oper) (A : Fr) (o : Oper) : Option Bool :=
 match o.guard with
 | none => some true
 | some (j, want) => match (ops[j]?).bind (·.dst) with
   | some d => match evA A (.tmp d) with
     | some (.v (.one (.b b))) => some (b == want)
     | some _ => some false
     | none => none
   | none => none
def resultsA (P : Program) (fn : Func) (A : Fr) (h : Hp) : Option AV :=
 match allSome (fun r => match r with
   | .tmp t => evA A (.tmp t)
   | .cell a t => (evA A (.tmp a)).bind fun x => evLoad P t x h) fn.results.toList with
 | some [v] => some v
 | some vs => (allSome asV2 vs).map .tup
 | none => none

/-! ### Forced values: each 'f x k' is 'k x' -/
section
variable {β : Type}
def fI (n : Int) (k : Int → β) : β := match n with
 | .ofNat m => fN m fun m => k (.ofNat m)
 | .negSucc m => fN m fun m => k (.negSucc m)
def fB (b : Bool) (k : Bool → β) : β := match b with
 | true => k true
 | false => k false
def fL {α : Type} (f : α → (α → β) → β) : List α → (List α → β) → β
 | [], k => k []
 | a :: l, k => f a fun a => fL f l fun l => k (a :: l)
def fK (x : IntKind) (k : IntKind → β) : β := match x with
 | .i8 => k .i8 | .i16 => k .i16 | .i32 => k .i32 | .i64 => k .i64 | .u8 => k .u8 | .u16 => k .u16 | .u32 => k .u32 | .u64 => k .u64
def fC (c : CapE) (k : CapE → β) : β := match c with
 | .ex n => fN n fun n => k (.ex n)
 | .un n => fN n fun n => k (.un n)
def f1 (x : A1) (k : A1 → β) : β := match x with
 | .b x => fB x fun x => k (.b x)
 | .i q n => fK q fun q => fI n fun n => k (.i q n)
 | .s l => fL fN l fun l => k (.s l)
 | .nilp => k .nilp
 | .p a o => fN a fun a => fN o fun o => k (.p a o)
 | .nils => k .nils
 | .sl a o n c => fN a fun a => fN o fun o => fN n fun n => fC c fun c => k (.sl a o n c)
 | .stl a o z b j => fN a fun a => fN o fun o => fN z fun z => fN b fun b => fN j fun j => k (.stl a o z b j)
 | .nilm => k .nilm
 | .m a => fN a fun a => k (.m a)
 | .nili => k .nili
 | .nilf => k .nilf
 | .f a => fN a fun a => k (.f a)
 | .clo a => fN a fun a => k (.clo a)
 | .ifc t a => fN t fun t => fN a fun a => k (.ifc t a)
def f2 (x : A2) (k : A2 → β) : β := match x with
 | .one x => f1 x fun x => k (.one x)
 | .agg l => fL f1 l fun l => k (.agg l)
def fV (x : AV) (k : AV → β) : β := match x with
 | .v x => f2 x fun x => k (.v x)
 | .tup l => fL f2 l fun l => k (.tup l)
def fE (e : A1 × A2 × Nat) (k : A1 × A2 × Nat → β) : β := match e with
 | (a, b, c) => f1 a fun a => f2 b fun b => fN c fun c => k (a, b, c)
def fO (o : AO) (k : AO → β) : β := match o with
 | .cells t l => fN t fun t => fL f1 l fun l => k (.cells t l)
 | .row t z l => fN t fun t => fN z fun z => fL f1 l fun l => k (.row t z l)
 | .map es c => fL fE es fun es => fN c fun c => k (.map es c)
 | .iter a b l c => fN a fun a => fN b fun b => fL fN l fun l => fN c fun c => k (.iter a b l c)
 | .siter s p => fL fN s fun s => fN p fun p => k (.siter s p)
 | .clo f l => fN f fun f => fL f2 l fun l => k (.clo f l)
 | .ifc t x => fN t fun t => f2 x fun x => k (.ifc t x)
def fTr {α : Type} : Nat → Tr α → Nat → Option α → (Tr α → β) → β
 | 0, _, _, o, k => k (.lf o)
 | d + 1, .nd l r, n, o, k => fN (n / 2) fun m => bif Nat.beq (n % 2) 0 then fTr d l m o fun l => k (.nd l r) else fTr d r m o fun r => k (.nd l r)
 | d + 1, .lf _, n, o, k => fN (n / 2) fun m => bif Nat.beq (n % 2) 0 then fTr d (.lf none) m o fun l => k (.nd l (.lf none)) else fTr d (.lf none) m o fun r => k (.nd (.lf none) r)
def fU (h : Hp) : List U → (Hp → β) → β
 | [], k => k h
 | .put a o :: r, k => match h with
   | ⟨t, n⟩ => fN a fun a => fO o fun o => fTr D t a (some o) fun t => fU ⟨t, n⟩ r k
 | .new o :: r, k => match h with
   | ⟨t, n⟩ => fO o fun o => fTr D t n (some o) fun t => fU ⟨t, Nat.succ n⟩ r k
 | .del a :: r, k => match h with
   | ⟨t, n⟩ => fN a fun a => fTr D t a none fun t => fU ⟨t, n⟩ r k
end
/-- The first temporaries. -/
def fArgs {β : Type} : List AV → Nat → Fr → (Fr → β) → β
 | [], _, A, k => k A
 | v :: l, i, A, k => fV v fun v => fTr DT A i (some v) fun A => fArgs l (Nat.succ i) A k
def putF {β : Type} (s : St) (d : Option Tmp) (v : AV) (us : List U) (k : St → Option β) : Option β :=
 match s with
 | ⟨A, n, h⟩ => match d with
   | some d => bif Nat.blt d n then fV v fun v => fTr DT A d (some v) fun A => fU h us fun h => k ⟨A, n, h⟩ else none
   | none => fU h us fun h => k ⟨A, n, h⟩
section
abbrev CallT := Nat → List AV → Hp → Option (AV × Hp)
variable (P : Program) (ext : CallT)
/-- One operation, its call made. -/
def doOp (call : CallT) (ops : Array Oper) (s : St) (o : Oper) : Option St :=
 match s with
 | ⟨A, n, h⟩ =>
 match wantedA ops A o with
 | some true =>
  match evPure P A o with
  | some v => putF ⟨A, n, h⟩ o.dst v [] some
  | none => match evRead P A h o with
   | some v => putF ⟨A, n, h⟩ o.dst v [] some
   | none => match evEff P A h o with
    | some (v, us) => putF ⟨A, n, h⟩ o.dst v us some
    | none => match evEnter A h o with
     | some (f, xs) => fN f fun f => match call f xs h with
       | some (v, h') => putF ⟨A, n, h'⟩ o.dst v [] some
       | none => none
     | none => none
 | some false => putF ⟨A, n, h⟩ o.dst undefA [] some
 | none => none
def doOps (call : CallT) (ops : Array Oper) : List Oper → St → Option St
 | [], s => some s
 | o :: l, s => match doOp P call ops s o with
   | some s' => doOps call ops l s'
   | none => none
/-! ### A region whose order is drawn: an order that stands for all -/
def takeable (P : Program) (o : Oper) : Bool :=
 match o.op with
 | .move _ | .assign _ | .pick .. | .build .. | .nilCheck _ | .binOp .. | .unOp .. | .slice .. | .fieldAddr .. | .field .. | .indexAddr .. | .index .. | .extract .. | .load .. => true
 | .convert s d _ => match P.underlying s, P.underlying d with
   | some (.slice _), _ | _, some (.slice _) => false
   | _, _ => true
 | .call c => match c.callee with
   | .builtin .len | .builtin .max | .builtin .min => true
   | _ => false
 | _ => false
/-- An order: what is taken ahead of the others; or what may come up, each with what is behind it. -/
inductive Sch where
 | done
 | take (i : Nat) (t : Sch)
 | one (i : Nat) (t : Sch)
 | two (i j : Nat) (t u : Sch)
def sched (ops : Array Oper) : Nat → Array Bool → Sch
 | 0, _ => .done
 | n + 1, listed => match Region.ready .any ops listed with
   | [] => .done
   | [i] => .one i (sched ops n (listed.setIfInBounds i true))
   | rs => match rs.find? fun i => match ops[i]? with
      | some o => takeable P o && Region.free .any ops listed i
      | none => false with
     | some i => .take i (sched ops n (listed.setIfInBounds i true))
     | none => match rs with
       | [i, j] => .two i j (sched ops n (listed.setIfInBounds i true)) (sched ops n (listed.setIfInBounds j true))
       | _ => .done
def schedOk (ops : Array Oper) : Nat → Sch → Array Bool → Bool
 | _, .done, listed => (Region.ready .any ops listed).isEmpty
 | n + 1, .take i l, listed => (Region.ready .any ops listed).contains i && Region.free .any ops listed i && schedOk ops n l (listed.setIfInBounds i true)
 | n + 1, .one i l, listed => (Region.ready .any ops listed == [i]) && schedOk ops n l (listed.setIfInBounds i true)
 | n + 1, .two i j l m, listed => (Region.ready .any ops listed == [i, j]) && schedOk ops n l (listed.setIfInBounds i true) && schedOk ops n m (listed.setIfInBounds j true)
 | 0, _, _ => false
def cellsAt (h : Hp) (f : Nat × Nat × Nat) : Option (List A1) := ((h.get f.1).bind rowOf).bind fun l => seg l f.2.1 f.2.2
/-- Does j wait for i itself? -/
def waitsFor (ops : Array Oper) (j i : Nat) : Bool :=
 match ops[j]? with
 | some o => o.after.any fun e => Region.binds .any e && e.on == i
 | none => false

/-- The place of number i among the variables that the region makes. -/
def allocNo (ops : Array Oper) (i : Nat) : Nat := ((ops.toList.take i).filter fun o => match o.op with | .alloc _ => true | _ => false).length
/-- One operation of a drawn region: a variable that is made has its name from the region's start (n0). -/
def doOpD (call : CallT) (ops : Array Oper) (n0 i : Nat) (s : St) (o : Oper) : Option St :=
 match o.op with
 | .alloc e => match s with
   | ⟨A, n, h⟩ => match wantedA ops A o, zeroT P e with
     | some true, some z => if sizeT P e = some z.cells.length then fN (n0 + allocNo ops i) fun k => putF ⟨A, n, h⟩ o.dst (.v (.one (.p k 0))) [.put k (.cells e z.cells)] some else none
     | _, _ => none
 | _ => doOp P call ops s o
def spotVal : Bool → List A1 → Option AV
 | true, cs => some (.v (.agg cs))
 | false, [y] => some (.v (.one y))
 | false, _ => none
/-- A cell that was read ahead: by whom; where; what. -/
abbrev FactA := Nat × (Nat × Nat × Nat) × List A1
def runSch (call : CallT) (ops : Array Oper) (n0 : Nat) : Sch → St → Option (St × List FactA × List (Nat × Hp))
 | .done, s => some (s, [], [])
 | .take i l, s => match ops[i]? with
   | some o => match s with
    | ⟨A, n, h⟩ => match wantedA ops A o with
     | some true => match evPure P A o with
       | some v => putF ⟨A, n, h⟩ o.dst v [] (runSch call ops n0 l)
       | none => match evSpot P A o with
         | some (g, f) => match cellsAt h f with
            | some cs => match spotVal g cs with
              | some v => match putF ⟨A, n, h⟩ o.dst v [] (runSch call ops n0 l) with
                | some (s', fs, hs) => some (s', (i, f, cs) :: fs, hs)
                | none => none
              | none => none
            | none => none
         | none => none
     | some false => putF ⟨A, n, h⟩ o.dst undefA [] (runSch call ops n0 l)
     | none => none
   | none => none
 | .one i l, s => match ops[i]? with
   | some o => match doOpD P call ops n0 i s o with
     | some s1 => match runSch call ops n0 l s1 with
       | some (s', fs, hs) => some (s', fs, (i, s1.h) :: hs)
       | none => none
     | none => none
   | none => none
 | .two i j l m, s => match ops[i]?, ops[j]? with
   | some o, some q => match doOpD P call ops n0 i s o, doOpD P call ops n0 j s q with
     | some s1, some s2 => match runSch call ops n0 l s1, runSch call ops n0 m s2 with
       | some (s', fs, hs), some (s2', fs2, hs2) => if s' = s2' then some (s', fs ++ fs2, (i, s1.h) :: (j, s2.h) :: (hs ++ hs2)) else none
       | _, _ => none
     | _, _ => none
   | _, _ => none
def sameCells : List A1 → List A1 → Bool
 | [], [] => true
 | a :: l, b :: m => if a = b then sameCells l m else false
 | _, _ => false
/-- What was read ahead lies so at the region's start, and behind all that comes up without waiting for the reader. -/
def factsOk (ops : Array Oper) (n0 : Nat) (h0 : Hp) (hs : List (Nat × Hp)) (f : FactA) : Bool :=
 match f with
 | (i, p, cs) => match cellsAt h0 p with
  | some cs0 => sameCells cs0 cs && Nat.blt p.1 n0 && hs.all fun h => waitsFor ops h.1 i || match cellsAt h.2 p with
    | some cs' => sameCells cs0 cs'
    | none => false
  | none => false
def doDrawn (call : CallT) (ops : Array Oper) (s : St) : Option St :=
 let l := sched P ops ops.size (Array.replicate ops.size false)
 match schedOk ops ops.size l (Array.replicate ops.size false) && Region.noSelect ops with
 | true => match s with
  | ⟨A, n, h0⟩ => fN (h0.n + allocNo ops ops.size) fun m => match h0 with
   | ⟨t, n0⟩ => if m ≤ 2 ^ D then match runSch P call ops n0 l ⟨A, n, ⟨t, m⟩⟩ with
    | some (s', fs, hs) => match fs.all (factsOk ops n0 ⟨t, m⟩ hs) with
      | true => some s'
      | false => none
    | none => none
   else none
 | false => none
/-- A call: what 'ext' knows of it; else by the function's body. -/
def callA (ev : Code → St → Option (X × St)) : CallT := fun f xs h =>
 match ext f xs h with
 | some r => some r
 | none => match P.funcs[f]? with
   | some fn => match fn.body with
     | some b => if Nat.max fn.ntmps xs.length ≤ 256 then fArgs xs 0 (.lf none) fun A => match ev b ⟨A, Nat.max fn.ntmps xs.length, h⟩ with
       | some (.normal, s') | some (.ret, s') => match s' with
          | ⟨A, _, h⟩ => (resultsA P fn A h).map fun v => (v, h)
       | _ => none
      else none
     | none => none
   | none => none
def evCode : Nat → Code → St → Option (X × St)
 | 0, _, _ => none
 | n + 1, c, s =>
  match c with
  | .skip => some (.normal, s)
  | .label _ => some (.normal, s)
  | .region _ ops false => match doOps P (callA P ext (evCode n)) ops ops.toList s with
    | some s' => some (.normal, s')
    | none => none
  | .region _ ops true => match doDrawn P (callA P ext (evCode n)) ops s with
    | some s' => some (.normal, s')
    | none => none
  | .seq a b => match evCode n a s with
    | some (.normal, s') => evCode n b s'
    | r => r
  | .cond x a b => match evA s.A x with
    | some (.v (.one (.b true))) => evCode n a s
    | some (.v (.one (.b false))) => evCode n b s
    | _ => none
  | .block id b => match evCode n b s with
    | some (.exit j, s') => if j = id then some (.normal, s') else some (.exit j, s')
    | r => r
  | .loop b => match evCode n b s with
    | some (.normal, s') => evCode n (.loop b) s'
    | r => r
  | .exit id => some (.exit id, s)
  | .ret => some (.ret, s)
  | _ => none
end
end Go.Ev
