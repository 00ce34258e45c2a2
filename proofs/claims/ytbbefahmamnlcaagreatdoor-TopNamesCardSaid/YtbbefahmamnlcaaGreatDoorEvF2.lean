/- A faster reckoner, the same by proof: one operation. -/
import Derived.Test.YtbbefahmamnlcaaGreatDoorEvF1
set_option linter.unusedVariables false
set_option linter.unusedSimpArgs false
set_option linter.unusedSectionVars false
namespace Go.Ev
open Go Go.RowKit
inductive Out where
 | val (v : AV) (us : List U)
 | enter (f : Nat) (xs : List AV)
 | no
def ofV (x : Option AV) : Out := match x with | some v => .val v [] | none => .no
def ofE (x : Option (AV × List U)) : Out := match x with | some (v, us) => .val v us | none => .no
def ofC (x : Option (Nat × List AV)) : Out := match x with | some (f, xs) => .enter f xs | none => .no
section
variable (P : Program)
/-- What an operation does, as doOp asks for it. -/
def opS (A : Fr) (h : Hp) (o : Oper) : Out := match evPure P A o with
 | some v => .val v []
 | none => match evRead P A h o with
  | some v => .val v []
  | none => match evEff P A h o with
   | some (v, us) => .val v us
   | none => match evEnter A h o with
    | some (f, xs) => .enter f xs
    | none => .no
def constA (v : Value) : Option AV := match v with
 | .int k n => some (.v (.one (.i k n)))
 | .bool x => some (.v (.one (.b x)))
 | v => asAV v
theorem constA_eq (v : Value) : constA v = asAV v := by
 unfold constA
 split <;> rfl
noncomputable def gA (A : Fr) (x : Operand) : Option AV := Operand.rec (motive := fun _ => Option AV) (fun t => Bool.rec (motive := fun _ => Option AV) none (gT DT A t) (Nat.blt t 256)) (fun v => constA v) (fun _ => none) (fun f => some (.v (.one (.f f)))) x
theorem gA_eq (A : Fr) (x : Operand) : gA A x = evA A x := by
 cases x with
 | tmp t =>
  show (Bool.rec (motive := fun _ => Option AV) none (gT DT A t) (Nat.blt t 256)) = (bif Nat.blt t 256 then Tr.get DT A t else none)
  rw [gT_eq]
  cases Nat.blt t 256 <;> rfl
 | const v => exact constA_eq v
 | global g => rfl
 | func f => rfl
theorem gA_fun (A : Fr) : gA A = evA A := funext (gA_eq A)
/-! ### Two whole numbers -/
def bI (k : IntKind) (n : Int) : Option AV := some (.v (.one (.i k n)))
def bB (b : Bool) : Option AV := some (.v (.one (.b b)))
def iArith (k k' : IntKind) (r : Option AV) : Option AV := if k = k' then r else none
def iAdd (k k' : IntKind) (a c : Int) : Option AV := iArith k k' (bI k (k.wrap (a + c)))
def iSub (k k' : IntKind) (a c : Int) : Option AV := iArith k k' (bI k (k.wrap (a - c)))
def iMul (k k' : IntKind) (a c : Int) : Option AV := iArith k k' (bI k (k.wrap (a * c)))
def iQuo (k k' : IntKind) (a c : Int) : Option AV := iArith k k' (if c = 0 then none else bI k (k.wrap (a.tdiv c)))
def iRem (k k' : IntKind) (a c : Int) : Option AV := iArith k k' (if c = 0 then none else bI k (a.tmod c))
def iAnd (k k' : IntKind) (a c : Int) : Option AV := iArith k k' (bI k (bitsI (· &&& ·) k a c))
def iOr (k k' : IntKind) (a c : Int) : Option AV := iArith k k' (bI k (bitsI (· ||| ·) k a c))
def iXor (k k' : IntKind) (a c : Int) : Option AV := iArith k k' (bI k (bitsI (· ^^^ ·) k a c))
def iShl (k : IntKind) (a c : Int) : Option AV := if 0 ≤ c then bI k (k.wrap (a * 2 ^ (min c.toNat k.bits))) else none
def iShr (k : IntKind) (a c : Int) : Option AV := if 0 ≤ c then bI k (a.fdiv (2 ^ (min c.toNat k.bits))) else none
def iEql (k k' : IntKind) (a c : Int) : Option AV := iArith k k' (bB (a == c))
def iNeq (k k' : IntKind) (a c : Int) : Option AV := iArith k k' (bB (!(a == c)))
def iLss (k k' : IntKind) (a c : Int) : Option AV := iArith k k' (bB (decide (a < c)))
def iLeq (k k' : IntKind) (a c : Int) : Option AV := iArith k k' (bB (decide (a ≤ c)))
def iGtr (k k' : IntKind) (a c : Int) : Option AV := iArith k k' (bB (decide (a > c)))
def iGeq (k k' : IntKind) (a c : Int) : Option AV := iArith k k' (bB (decide (a ≥ c)))
def iOther (op : BinOp) (t : TypeId) (k k' : IntKind) (a c : Int) : Option AV := evBin P op t (.v (.one (.i k a))) (.v (.one (.i k' c)))
def binI (op : BinOp) (t : TypeId) (k k' : IntKind) (a c : Int) : Option AV := match op with
 | .add => iAdd k k' a c
 | .sub => iSub k k' a c
 | .mul => iMul k k' a c
 | .quo => iQuo k k' a c
 | .rem => iRem k k' a c
 | .and => iAnd k k' a c
 | .or => iOr k k' a c
 | .xor => iXor k k' a c
 | .shl => iShl k a c
 | .shr => iShr k a c
 | .eql => iEql k k' a c
 | .neq => iNeq k k' a c
 | .lss => iLss k k' a c
 | .leq => iLeq k k' a c
 | .gtr => iGtr k k' a c
 | .geq => iGeq k k' a c
 | op => iOther P op t k k' a c
theorem binI_eq (op : BinOp) (t : TypeId) (k k' : IntKind) (a c : Int) : binI P op t k k' a c = evBin P op t (.v (.one (.i k a))) (.v (.one (.i k' c))) := by
 cases op <;> try rfl
 all_goals
  simp only [binI, evBin, iAdd, iSub, iMul, iQuo, iRem, iAnd, iOr, iXor, iEql, iNeq, iLss, iLeq, iGtr, iGeq, iArith, bI, bB, cmpI, Option.map_some]
 all_goals (split <;> rfl)
/-- == and its like, as a binary operation has them. -/
def slowBin (op : BinOp) (t : TypeId) (x y : Operand) (a b : AV) : Option AV := match a, b with
 | .v (.one .nili), .v (.one .nili) => if Region.isConst x || Region.isConst y then match op, P.underlying t with
    | .eql, some (.interface _) => some (.v (.one (.b true)))
    | .neq, some (.interface _) => some (.v (.one (.b false)))
    | _, _ => none
   else none
 | _, _ => evBin P op t a b
noncomputable def bin1 (op : BinOp) (t : TypeId) (x y : Operand) (a b : AV) : Option AV :=
 AV.rec (motive := fun _ => Option AV) (fun a2 => A2.rec (motive := fun _ => Option AV) (fun a1 => A1.casesOn (motive := fun _ => Option AV) a1 (fun _ => slowBin P op t x y a b)
  (fun k n => AV.rec (motive := fun _ => Option AV) (fun b2 => A2.rec (motive := fun _ => Option AV) (fun b1 => A1.casesOn (motive := fun _ => Option AV) b1 (fun _ => slowBin P op t x y a b) (fun k' m => binI P op t k k' n m) (fun _ => slowBin P op t x y a b) (slowBin P op t x y a b) (fun _ _ => slowBin P op t x y a b) (slowBin P op t x y a b) (fun _ _ _ _ => slowBin P op t x y a b) (fun _ _ _ _ _ => slowBin P op t x y a b) (slowBin P op t x y a b) (fun _ => slowBin P op t x y a b) (slowBin P op t x y a b) (slowBin P op t x y a b) (fun _ => slowBin P op t x y a b) (fun _ => slowBin P op t x y a b) (fun _ _ => slowBin P op t x y a b)) (fun _ => slowBin P op t x y a b) b2) (fun _ => slowBin P op t x y a b) b)
  (fun _ => slowBin P op t x y a b) (slowBin P op t x y a b) (fun _ _ => slowBin P op t x y a b) (slowBin P op t x y a b) (fun _ _ _ _ => slowBin P op t x y a b) (fun _ _ _ _ _ => slowBin P op t x y a b) (slowBin P op t x y a b) (fun _ => slowBin P op t x y a b) (slowBin P op t x y a b) (slowBin P op t x y a b) (fun _ => slowBin P op t x y a b) (fun _ => slowBin P op t x y a b) (fun _ _ => slowBin P op t x y a b)) (fun _ => slowBin P op t x y a b) a2) (fun _ => slowBin P op t x y a b) a
theorem bin1_eq (op : BinOp) (t : TypeId) (x y : Operand) (a b : AV) : bin1 P op t x y a b = slowBin P op t x y a b := by
 cases a with
 | tup _ => rfl
 | v a =>
  cases a with
  | agg _ => rfl
  | one a =>
   cases a <;> try rfl
   cases b with
   | tup _ => rfl
   | v b =>
    cases b with
    | agg _ => rfl
    | one b =>
     cases b <;> try rfl
     exact binI_eq P _ _ _ _ _ _
/-! ### The operations, each by itself -/
noncomputable def oMove (A : Fr) (x : Operand) : Out := ofV (gA A x)
noncomputable def oPick (A : Fr) (c x y : Operand) : Out := ofV (match gA A c with
   | some (.v (.one (.b true))) => gA A x
   | some (.v (.one (.b false))) => gA A y
   | _ => none)
noncomputable def oBin (A : Fr) (op : BinOp) (t : TypeId) (x y : Operand) : Out := Option.rec (motive := fun _ => Out) .no (fun a => Option.rec (motive := fun _ => Out) .no (fun b => ofV (bin1 P op t x y a b)) (gA A y)) (gA A x)
noncomputable def oUn (A : Fr) (op : UnOp) (x : Operand) : Out := ofV ((gA A x).bind fun a => evUn op a)
noncomputable def oConv (A : Fr) (h : Hp) (s d : TypeId) (x : Operand) : Out := match gA A x with
 | some a => match evConvP P s d a with
   | some v => .val v []
   | none => ofE (evConvM P h s d a)
 | none => .no
noncomputable def oFieldAddr (A : Fr) (s : TypeId) (x : Operand) (f : Nat) : Out := ofV (match gA A x, fieldOff P s f with
   | some (.v (.one (.p k q))), some (d, ty) => match sizeT P ty with
      | some (Nat.succ _) => some (.v (.one (.p k (q + d))))
      | _ => none
   | _, _ => none)
noncomputable def oField (A : Fr) (t : TypeId) (x : Operand) (f : Nat) : Out := ofV ((gA A x).bind fun v => evField P t v f)
noncomputable def oIndexAddr (A : Fr) (t : TypeId) (x i : Operand) : Out := ofV ((gA A x).bind fun a => (gA A i).bind fun b => evIndexAddr P t a b)
noncomputable def oIndex (A : Fr) (t : TypeId) (x i : Operand) : Out := ofV ((gA A x).bind fun a => (gA A i).bind fun b => evIndex P t a b)
noncomputable def oExtract (A : Fr) (x : Operand) (i : Nat) : Out := ofV (match gA A x with
   | some (.tup l) => (l[i]?).map .v
   | _ => none)
noncomputable def oNil (A : Fr) (x : Operand) : Out := ofV (match gA A x with
   | some (.v (.one (.p k q))) => some (.v (.one (.p k q)))
   | _ => none)
noncomputable def oLoad (A : Fr) (h : Hp) (t : TypeId) (x : Operand) : Out := ofV ((gA A x).bind fun v => evLoad P t v h)
noncomputable def oStore (A : Fr) (h : Hp) (t : TypeId) (x y : Operand) : Out := ofE ((gA A x).bind fun a => (gA A y).bind fun b => (evStore P t a b h).map fun us => (undefA, us))
noncomputable def oBox (A : Fr) (h : Hp) (e : TypeId) (x : Operand) : Out := ofE (match gA A x with
   | some (.v v) => evNew h e v
   | _ => none)
def oSlow (A : Fr) (h : Hp) (o : Oper) : Out := opS P A h o
/-- A call's function, by its value; the others. -/
noncomputable def oCallV (A : Fr) (h : Hp) (f : Operand) (args : Array Operand) : Out := ofC (match allSome (gA A) args.toList with
   | some xs => match gA A f with
     | some (.v (.one (.f g))) => some (g, xs)
     | some (.v (.one (.clo k))) => match h.get k with
       | some (.clo g caps) => some (g, xs ++ caps.map .v)
       | _ => none
     | _ => none
   | none => none)
noncomputable def oCall (A : Fr) (h : Hp) (o : Oper) (c : Call) : Out := match c.callee with
 | .value f => oCallV A h f c.args
 | .builtin _ => oSlow P A h o
 | .invoke _ _ => oSlow P A h o
noncomputable def opF (A : Fr) (h : Hp) (o : Oper) : Out := match o.op with
 | .move x => oMove A x
 | .assign x => oMove A x
 | .pick c x y => oPick A c x y
 | .binOp op t x y _ => oBin P A op t x y
 | .unOp op _ x => oUn A op x
 | .convert s d x => oConv P A h s d x
 | .fieldAddr s x f => oFieldAddr P A s x f
 | .field t x f => oField P A t x f
 | .indexAddr t x i => oIndexAddr P A t x i
 | .index t x i => oIndex P A t x i
 | .extract x i => oExtract A x i
 | .nilCheck x => oNil A x
 | .load t x => oLoad P A h t x
 | .store t x y => oStore P A h t x y
 | .box e x => oBox A h e x
 | .call c => oCall P A h o c
 | _ => oSlow P A h o
theorem pureOut {A : Fr} {h : Hp} {o : Oper} {r : Option AV} (h1 : evPure P A o = r) (h2 : evRead P A h o = none) (h3 : evEff P A h o = none) (h4 : evEnter A h o = none) : ofV r = opS P A h o := by
 unfold opS
 rw [h1, h2, h3, h4]
 cases r <;> rfl
theorem readOut {A : Fr} {h : Hp} {o : Oper} {r : Option AV} (h1 : evPure P A o = none) (h2 : evRead P A h o = r) (h3 : evEff P A h o = none) (h4 : evEnter A h o = none) : ofV r = opS P A h o := by
 unfold opS
 rw [h1, h2, h3, h4]
 cases r <;> rfl
theorem effOut {A : Fr} {h : Hp} {o : Oper} {r : Option (AV × List U)} (h1 : evPure P A o = none) (h2 : evRead P A h o = none) (h3 : evEff P A h o = r) (h4 : evEnter A h o = none) : ofE r = opS P A h o := by
 unfold opS
 rw [h1, h2, h3, h4]
 cases r <;> rfl
theorem enterOut {A : Fr} {h : Hp} {o : Oper} {r : Option (Nat × List AV)} (h1 : evPure P A o = none) (h2 : evRead P A h o = none) (h3 : evEff P A h o = none) (h4 : evEnter A h o = r) : ofC r = opS P A h o := by
 unfold opS
 rw [h1, h2, h3, h4]
 cases r <;> rfl
theorem opF_eq (A : Fr) (h : Hp) (o : Oper) : opF P A h o = opS P A h o := by
 obtain ⟨dst, op, ty, pos, after, guard⟩ := o
 cases op <;> try rfl
 case move x => simp only [opF, oMove, gA_eq]; exact pureOut P rfl rfl rfl rfl
 case assign x => simp only [opF, oMove, gA_eq]; exact pureOut P rfl rfl rfl rfl
 case pick c x y => simp only [opF, oPick, gA_eq]; exact pureOut P rfl rfl rfl rfl
 case binOp op t x y yt =>
  rw [← pureOut P (A := A) (h := h) (o := ⟨dst, .binOp op t x y yt, ty, pos, after, guard⟩) (r := (evA A x).bind fun a => (evA A y).bind fun b => slowBin P op t x y a b) rfl rfl rfl rfl]
  simp only [opF, oBin, gA_eq, bin1_eq]
  cases evA A x with
  | none => rfl
  | some a => cases evA A y <;> rfl
 case unOp op t x => simp only [opF, oUn, gA_eq]; exact pureOut P rfl rfl rfl rfl
 case convert s d x =>
  simp only [opF, oConv, gA_eq]
  unfold opS
  simp only [evPure, evRead, evEff, evEnter]
  cases hx : evA A x with
  | none => rfl
  | some a =>
   simp only [Option.bind_some]
   cases evConvP P s d a with
   | some v => rfl
   | none => simp only [ofE]; try (cases evConvM P h s d a <;> rfl)
 case fieldAddr s x f => simp only [opF, oFieldAddr, gA_eq]; exact pureOut P rfl rfl rfl rfl
 case field t x f => simp only [opF, oField, gA_eq]; exact pureOut P rfl rfl rfl rfl
 case indexAddr t x i => simp only [opF, oIndexAddr, gA_eq]; exact pureOut P rfl rfl rfl rfl
 case index t x i => simp only [opF, oIndex, gA_eq]; exact pureOut P rfl rfl rfl rfl
 case extract x i => simp only [opF, oExtract, gA_eq]; exact pureOut P rfl rfl rfl rfl
 case nilCheck x => simp only [opF, oNil, gA_eq]; exact pureOut P rfl rfl rfl rfl
 case load t x => simp only [opF, oLoad, gA_eq]; exact readOut P rfl rfl rfl rfl
 case store t x y => simp only [opF, oStore, gA_eq]; exact effOut P rfl rfl rfl rfl
 case box e x => simp only [opF, oBox, gA_eq]; exact effOut P rfl rfl rfl rfl
 case call c =>
  obtain ⟨callee, args, ats⟩ := c
  cases callee <;> try rfl
  rename_i f
  simp only [opF, oCall, oCallV, gA_eq, gA_fun]
  refine enterOut P ?_ ?_ ?_ ?_
  · simp only [evPure]
  · simp only [evRead]
  · simp only [evEff]
  · simp only [evEnter]
    cases allSome (evA A) args.toList <;> rfl
end
end Go.Ev
