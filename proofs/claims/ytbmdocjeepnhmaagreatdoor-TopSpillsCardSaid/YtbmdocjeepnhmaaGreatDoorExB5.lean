/- A faster reckoner, the same by proof: one operation. -/
import Derived.Test.YtbmdocjeepnhmaaGreatDoorExB4
set_option linter.unusedVariables false
set_option linter.unusedSimpArgs false
set_option linter.unusedSectionVars false
namespace Go.Ev
open Go Go.RowKit
inductive Out where
 | val (v : AV) (us : List U)
 | enter (f : Nat) (xs : List AV)
 | no
def ofV (x : Option AV) : Out := match x with | some v => .val v [] | none => .no
def ofE (x : Option (AV × List U)) : Out := match x with | some (v, us) => .val v us | none => .no
def ofC (x : Option (Nat × List AV)) : Out := match x with | some (f, xs) => .enter f xs | none => .no
section
variable (P : Program)
/-- What an operation does, as doOp asks for it. -/
def opS (A : Fr) (h : Hp) (o : Oper) : Out := match evPure P A o with
 | some v => .val v []
 | none => match evRead P A h o with
  | some v => .val v []
  | none => match evEff P A h o with
   | some (v, us) => .val v us
   | none => match evEnter A h o with
    | some (f, xs) => .enter f xs
    | none => .no
def constA (v : Value) : Option AV := match v with
 | .int k n => some (.v (.one (.i k n)))
 | .bool x => some (.v (.one (.b x)))
 | v => asAV v
theorem constA_eq (v : Value) : constA v = asAV v := by
 unfold constA
 split <;> rfl
noncomputable def gA (A : Fr) (x : Operand) : Option AV := Operand.rec (motive := fun _ => Option AV) (fun t => Bool.rec (motive := fun _ => Option AV) none (gT DT A t) (Nat.blt t 256)) (fun v => constA v) (fun _ => none) (fun f => some (.v (.one (.f f)))) x
theorem gA_eq (A : Fr) (x : Operand) : gA A x = evA A x := by
 cases x with
 | tmp t =>
  show (Bool.rec (motive := fun _ => Option AV) none (gT DT A t) (Nat.blt t 256)) = (bif Nat.blt t 256 then Tr.get DT A t else none)
  rw [gT_eq]
  cases Nat.blt t 256 <;> rfl
 | const v => exact constA_eq v
 | global g => rfl
 | func f => rfl
theorem gA_fun (A : Fr) : gA A = evA A := funext (gA_eq A)
/-! ### Two whole numbers -/
def bI (k : IntKind) (n : Int) : Option AV := some (.v (.one (.i k n)))
def bB (b : Bool) : Option AV := some (.v (.one (.b b)))
def iArith (k k' : IntKind) (r : Option AV) : Option AV := if k = k' then r else none
def iAdd (k k' : IntKind) (a c : Int) : Option AV := iArith k k' (bI k (k.wrap (a + c)))
def iSub (k k' : IntKind) (a c : Int) : Option AV := iArith k k' (bI k (k.wrap (a - c)))
def iMul (k k' : IntKind) (a c : Int) : Option AV := iArith k k' (bI k (k.wrap (a * c)))
def iQuo (k k' : IntKind) (a c : Int) : Option AV := iArith k k' (if c = 0 then none else bI k (k.wrap (a.tdiv c)))
def iRem (k k' : IntKind) (a c : Int) : Option AV := iArith k k' (if c = 0 then none else bI k (a.tmod c))
def iAnd (k k' : IntKind) (a c : Int) : Option AV := iArith k k' (bI k (bitsI (· &&& ·) k a c))
def iOr (k k' : IntKind) (a c : Int) : Option AV := iArith k k' (bI k (bitsI (· ||| ·) k a c))
def iXor (k k' : IntKind) (a c : Int) : Option AV := iArith k k' (bI k (bitsI (· ^^^ ·) k a c))
def iShl (k : IntKind) (a c : Int) : Option AV := if 0 ≤ c then bI k (k.wrap (a * 2 ^ (min c.toNat k.bits))) else none
def iShr (k : IntKind) (a c : Int) : Option AV := if 0 ≤ c then bI k (a.fdiv (2 ^ (min c.toNat k.bits))) else none
def iEql (k k' : IntKind) (a c : Int) : Option AV := iArith k k' (bB (a == c))
def iNeq (k k' : IntKind) (a c : Int) : Option AV := iArith k k' (bB (!(a == c)))
def iLss (k k' : IntKind) (a c : Int) : Option AV := iArith k k' (bB (decide (a < c)))
def iLeq (k k' : IntKind) (a c : Int) : Option AV := iArith k k' (bB (decide (a ≤ c)))
def iGtr (k k' : IntKind) (a c : Int) : Option AV := iArith k k' (bB (decide (a > c)))
def iGeq (k k' : IntKind) (a c : Int) : Option AV := iArith k k' (bB (decide (a ≥ c)))
def iOther (op : BinOp) (t : TypeId) (k k' : IntKind) (a c : Int) : Option AV := evBin P op t (.v (.one (.i k a))) (.v (.one (.i k' c)))
def binI (op : BinOp) (t : TypeId) (k k' : IntKind) (a c : Int) : Option AV := match op with
 | .add => iAdd k k' a c
 | .sub => iSub k k' a c
 | .mul => iMul k k' a c
 | .quo => iQuo k k' a c
 | .rem => iRem k k' a c
 | .and => iAnd k k' a c
 | .or => iOr k k' a c
 | .xor => iXor k k' a c
 | .shl => iShl k a c
 | .shr => iShr k a c
 | .eql => iEql k k' a c
 | .neq => iNeq k k' a c
 | .lss => iLss k k' a c
 | .leq => iLeq k k' a c
 | .gtr => iGtr k k' a c
 | .geq => iGeq k k' a c
 | op => iOther P op t k k' a c
theorem binI_eq (op : BinOp) (t : TypeId) (k k' : IntKind) (a c : Int) : binI P op t k k' a c = evBin P op t (.v (.one (.i k a))) (.v (.one (.i k' c))) := by
 cases op <;> try rfl
 all_goals
  simp only [binI, evBin, iAdd, iSub, iMul, iQuo, iRem, iAnd, iOr, iXor, iEql, iNeq, iLss, iLeq, iGtr, iGeq, iArith, bI, bB, cmpI, Option.map_some]
 all_goals (split <;> rfl)
/-- == and its like, as a binary operation has them. -/
def slowBin (op : BinOp) (t : TypeId) (x y : Operand) (a b : AV) : Option AV := match a, b with
 | .v (.one .nili), .v (.one .nili) => if Region.isConst x || Region.isConst y then match op, P.underlying t with
    | .eql, some (.interface _) => some (.v (.one (.b true)))
    | .neq, some (.interface _) => some (.v (.one (.b false)))
    | _, _ => none
   else none
 | _, _ => evBin P op t a b
noncomputable def bin1 (op : BinOp) (t : TypeId) (x y : Operand) (a b : AV) : Option AV :=
 AV.rec (motive := fun _ => Option AV) (fun a2 => A2.rec (motive := fun _ => Option AV) (fun a1 => A1.casesOn (motive := fun _ => Option AV) a1 (fun _ => slowBin P op t x y a b)
  (fun k n => AV.rec (motive := fun _ => Option AV) (fun b2 => A2.rec (motive := fun _ => Option AV) (fun b1 => A1.casesOn (motive := fun _ => Option AV) b1 (fun _ => slowBin P op t x y a b) (fun k' m => binI P op t k k' n m) (fun _ => slowBin P op t x y a b) (slowBin P op t x y a b) (fun _ _ => slowBin P op t x y a b) (slowBin P op t x y a b) (fun _ _ _ _ => slowBin P op t x y a b) (fun _ _ _ _ _ => slowBin P op t x y a b) (slowBin P op t x y a b) (fun _ => slowBin P op t x y a b) (slowBin P op t x y a b) (slowBin P op t x y a b) (fun _ => slowBin P op t x y a b) (fun _ => slowBin P op t x y a b) (fun _ _ => slowBin P op t x y a b) (fun _ => slowBin P op t x y a b) (fun _ => slowBin P op t x y a b)) (fun _ => slowBin P op t x y a b) b2) (fun _ => slowBin P op t x y a b) b)
  (fun _ => slowBin P op t x y a b) (slowBin P op t x y a b) (fun _ _ => slowBin P op t x y a b) (slowBin P op t x y a b) (fun _ _ _ _ => slowBin P op t x y a b) (fun _ _ _ _ _ => slowBin P op t x y a b) (slowBin P op t x y a b) (fun _ => slowBin P op t x y a b) (slowBin P op t x y a b) (slowBin P op t x y a b) (fun _ => slowBin P op t x y a b) (fun _ => slowBin P op t x y a b) (fun _ _ => slowBin P op t x y a b) (fun _ => slowBin P op t x y a b) (fun _ => slowBin P op t x y a b)) (fun _ => slowBin P op t x y a b) a2) (fun _ => slowBin P op t x y a b) a
theorem bin1_eq (op : BinOp) (t : TypeId) (x y : Operand) (a b : AV) : bin1 P op t x y a b = slowBin P op t x y a b := by
 cases a with
 | tup _ => rfl
 | v a =>
  cases a with
  | agg _ => rfl
  | one a =>
   cases a <;> try rfl
   cases b with
   | tup _ => rfl
   | v b =>
    cases b with
    | agg _ => rfl
    | one b =>
     cases b <;> try rfl
     exact binI_eq P _ _ _ _ _ _
/-! ### The operations, each by itself -/
noncomputable def oMove (A : Fr) (x : Operand) : Out := ofV (gA A x)
noncomputable def oPick (A : Fr) (c x y : Operand) : Out := ofV (match gA A c with
   | some (.v (.one (.b true))) => gA A x
   | some (.v (.one (.b false))) => gA A y
   | _ => none)
noncomputable def oBin (A : Fr) (op : BinOp) (t : TypeId) (x y : Operand) : Out := Option.rec (motive := fun _ => Out) .no (fun a => Option.rec (motive := fun _ => Out) .no (fun b => ofV (bin1 P op t x y a b)) (gA A y)) (gA A x)
noncomputable def oUn (A : Fr) (op : UnOp) (x : Operand) : Out := ofV ((gA A x).bind fun a => evUn op a)
noncomputable def oConv (A : Fr) (h : Hp) (s d : TypeId) (x : Operand) : Out := match gA A x with
 | some a => match evConvP P s d a with
   | some v => .val v []
   | none => ofE (evConvM P h s d a)
 | none => .no
noncomputable def oFieldAddr (A : Fr) (s : TypeId) (x : Operand) (f : Nat) : Out := ofV (match gA A x, fieldOff P s f with
   | some (.v (.one (.p k q))), some (d, ty) => match sizeT P ty with
      | some (Nat.succ _) => some (.v (.one (.p k (q + d))))
      | _ => none
   | _, _ => none)
noncomputable def oField (A : Fr) (t : TypeId) (x : Operand) (f : Nat) : Out := ofV ((gA A x).bind fun v => evField P t v f)
noncomputable def oIndexAddr (A : Fr) (t : TypeId) (x i : Operand) : Out := ofV ((gA A x).bind fun a => (gA A i).bind fun b => evIndexAddr P t a b)
noncomputable def oIndex (A : Fr) (t : TypeId) (x i : Operand) : Out := ofV ((gA A x).bind fun a => (gA A i).bind fun b => evIndex P t a b)
noncomputable def oExtract (A : Fr) (x : Operand) (i : Nat) : Out := ofV (match gA A x with
   | some (.tup l) => (l[i]?).map .v
   | _ => none)
noncomputable def oNil (A : Fr) (x : Operand) : Out := ofV (match gA A x with
   | some (.v (.one (.p k q))) => some (.v (.one (.p k q)))
   | _ => none)
noncomputable def oLoad (A : Fr) (h : Hp) (t : TypeId) (x : Operand) : Out := ofV ((gA A x).bind fun v => evLoad P t v h)
noncomputable def oStore (A : Fr) (h : Hp) (t : TypeId) (x y : Operand) : Out := ofE ((gA A x).bind fun a => (gA A y).bind fun b => (evStore P t a b h).map fun us => (undefA, us))
noncomputable def oBox (A : Fr) (h : Hp) (e : TypeId) (x : Operand) : Out := ofE (match gA A x with
   | some (.v v) => evNew h e v
   | _ => none)
def oSlow (A : Fr) (h : Hp) (o : Oper) : Out := opS P A h o
/-- A call's function, by its value; the others. -/
noncomputable def oCallV (A : Fr) (h : Hp) (f : Operand) (args : Array Operand) : Out := ofC (match allSome (gA A) args.toList with
   | some xs => match gA A f with
     | some (.v (.one (.f g))) => some (g, xs)
     | some (.v (.one (.clo k))) => match h.get k with
       | some (.clo g caps) => bif isB g then some (unB g, caps.map .v ++ xs) else some (g, xs ++ caps.map .v)
       | _ => none
     | _ => none
   | none => none)
noncomputable def oCall (A : Fr) (h : Hp) (o : Oper) (c : Call) : Out := match c.callee with
 | .value f => oCallV A h f c.args
 | .builtin _ => oSlow P A h o
 | .invoke _ _ => oSlow P A h o
noncomputable def opF (A : Fr) (h : Hp) (o : Oper) : Out := match o.op with
 | .move x => oMove A x
 | .assign x => oMove A x
 | .pick c x y => oPick A c x y
 | .binOp op t x y _ => oBin P A op t x y
 | .unOp op _ x => oUn A op x
 | .convert s d x => oConv P A h s d x
 | .fieldAddr s x f => oFieldAddr P A s x f
 | .field t x f => oField P A t x f
 | .indexAddr t x i => oIndexAddr P A t x i
 | .index t x i => oIndex P A t x i
 | .extract x i => oExtract A x i
 | .nilCheck x => oNil A x
 | .load t x => oLoad P A h t x
 | .store t x y => oStore P A h t x y
 | .box e x => oBox A h e x
 | .call c => oCall P A h o c
 | _ => oSlow P A h o
theorem pureOut {A : Fr} {h : Hp} {o : Oper} {r : Option AV} (h1 : evPure P A o = r) (h2 : evRead P A h o = none) (h3 : evEff P A h o = none) (h4 : evEnter A h o = none) : ofV r = opS P A h o := by
 unfold opS
 rw [h1, h2, h3, h4]
 cases r <;> rfl
theorem readOut {A : Fr} {h : Hp} {o : Oper} {r : Option AV} (h1 : evPure P A o = none) (h2 : evRead P A h o = r) (h3 : evEff P A h o = none) (h4 : evEnter A h o = none) : ofV r = opS P A h o := by
 unfold opS
 rw [h1, h2, h3, h4]
 cases r <;> rfl
theorem effOut {A : Fr} {h : Hp} {o : Oper} {r : Option (AV × List U)} (h1 : evPure P A o = none) (h2 : evRead P A h o = none) (h3 : evEff P A h o = r) (h4 : evEnter A h o = none) : ofE r = opS P A h o := by
 unfold opS
 rw [h1, h2, h3, h4]
 cases r <;> rfl
theorem enterOut {A : Fr} {h : Hp} {o : Oper} {r : Option (Nat × List AV)} (h1 : evPure P A o = none) (h2 : evRead P A h o = none) (h3 : evEff P A h o = none) (h4 : evEnter A h o = r) : ofC r = opS P A h o := by
 unfold opS
 rw [h1, h2, h3, h4]
 cases r <;> rfl
theorem opF_eq (A : Fr) (h : Hp) (o : Oper) : opF P A h o = opS P A h o := by
 obtain ⟨dst, op, ty, pos, after, guard⟩ := o
 cases op <;> try rfl
 case move x => simp only [opF, oMove, gA_eq]; exact pureOut P rfl rfl rfl rfl
 case assign x => simp only [opF, oMove, gA_eq]; exact pureOut P rfl rfl rfl rfl
 case pick c x y => simp only [opF, oPick, gA_eq]; exact pureOut P rfl rfl rfl rfl
 case binOp op t x y yt =>
  rw [← pureOut P (A := A) (h := h) (o := ⟨dst, .binOp op t x y yt, ty, pos, after, guard⟩) (r := (evA A x).bind fun a => (evA A y).bind fun b => slowBin P op t x y a b) rfl rfl rfl rfl]
  simp only [opF, oBin, gA_eq, bin1_eq]
  cases evA A x with
  | none => rfl
  | some a => cases evA A y <;> rfl
 case unOp op t x => simp only [opF, oUn, gA_eq]; exact pureOut P rfl rfl rfl rfl
 case convert s d x =>
  simp only [opF, oConv, gA_eq]
  unfold opS
  simp only [evPure, evRead, evEff, evEnter]
  cases hx : evA A x with
  | none => rfl
  | some a =>
   simp only [Option.bind_some]
   cases evConvP P s d a with
   | some v => rfl
   | none => simp only [ofE]; try (cases evConvM P h s d a <;> rfl)
 case fieldAddr s x f => simp only [opF, oFieldAddr, gA_eq]; exact pureOut P rfl rfl rfl rfl
 case field t x f => simp only [opF, oField, gA_eq]; exact pureOut P rfl rfl rfl rfl
 case indexAddr t x i => simp only [opF, oIndexAddr, gA_eq]; exact pureOut P rfl rfl rfl rfl
 case index t x i => simp only [opF, oIndex, gA_eq]; exact pureOut P rfl rfl rfl rfl
 case extract x i => simp only [opF, oExtract, gA_eq]; exact pureOut P rfl rfl rfl rfl
 case nilCheck x => simp only [opF, oNil, gA_eq]; exact pureOut P rfl rfl rfl rfl
 case load t x => simp only [opF, oLoad, gA_eq]; exact readOut P rfl rfl rfl rfl
 case store t x y => simp only [opF, oStore, gA_eq]; exact effOut P rfl rfl rfl rfl
 case box e x => simp only [opF, oBox, gA_eq]; exact effOut P rfl rfl rfl rfl
 case call c =>
  obtain ⟨callee, args, ats⟩ := c
  cases callee <;> try rfl
  rename_i f
  simp only [opF, oCall, oCallV, gA_eq, gA_fun]
  refine enterOut P ?_ ?_ ?_ ?_
  · simp only [evPure]
  · simp only [evRead]
  · simp only [evEff]
  · simp only [evEnter]
    cases allSome (evA A) args.toList <;> rfl
end
end Go.Ev
namespace Go.Ev
open Go Go.RowKit
/-! ### Masks -/
def bit1 (d : Nat) : Nat := Nat.shiftLeft 1 d
def maskL (l : List Nat) : Nat := l.foldr (fun a m => Nat.lor (bit1 a) m) 0
def bitD (o : Option Nat) : Nat := match o with
 | some d => bit1 d
 | none => 0
theorem testBit_bit1 (d i : Nat) : Nat.testBit (bit1 d) i = decide (d = i) := by
 show Nat.testBit (1 <<< d) i = _
 rw [Nat.one_shiftLeft, Nat.testBit_two_pow]
theorem testBit_maskL (i : Nat) : ∀ (l : List Nat), Nat.testBit (maskL l) i = l.contains i
 | [] => by simp [maskL]
 | a :: l => by
  have ih := testBit_maskL i l
  show Nat.testBit (bit1 a ||| maskL l) i = _
  rw [Nat.testBit_or, ih, testBit_bit1, List.contains_cons]
  by_cases h : a = i
  · subst h
    simp
  · have : (i == a) = false := by simpa using fun e => h e.symm
    rw [this]
    simp [h]
def no1 (m b : Nat) : Bool := Nat.beq (Nat.land m b) 0
theorem no1_bit (m d : Nat) : no1 m (bit1 d) = !Nat.testBit m d := by
 unfold no1
 cases h : Nat.testBit m d with
 | false =>
  have : Nat.land m (bit1 d) = 0 := by
   apply Nat.eq_of_testBit_eq
   intro i
   show Nat.testBit (m &&& bit1 d) i = _
   rw [Nat.testBit_and, testBit_bit1, Nat.zero_testBit]
   by_cases hi : d = i
   · subst hi
     simp [h]
   · simp [hi]
  rw [this]
  rfl
 | true =>
  cases hb : Nat.beq (Nat.land m (bit1 d)) 0 with
  | false => rfl
  | true =>
   have h1 := Nat.eq_of_beq_eq_true hb
   have h2 : Nat.testBit (m &&& bit1 d) d = false := by
    show Nat.testBit (Nat.land m (bit1 d)) d = false
    rw [h1, Nat.zero_testBit]
   rw [Nat.testBit_and, testBit_bit1, h] at h2
   simp at h2
def subM (d m : Nat) : Bool := Nat.beq (Nat.land m d) d
theorem subM_iff (d m : Nat) : subM d m = true ↔ ∀ i, Nat.testBit d i = true → Nat.testBit m i = true := by
 unfold subM
 rw [Nat.beq_eq]
 constructor
 · intro h i hi
   have : Nat.testBit (m &&& d) i = Nat.testBit d i := congrArg (fun x => Nat.testBit x i) h
   rw [Nat.testBit_and, hi] at this
   simpa using this
 · intro h
   show m &&& d = d
   apply Nat.eq_of_testBit_eq
   intro i
   rw [Nat.testBit_and]
   cases hd : Nat.testBit d i with
   | false => simp
   | true => rw [h i hd]; rfl
/-! ### What is to be known of an operation -/
structure Sm where
 bit : Nat
 dep : Nat
 dst : Nat
 look : Nat
 tk : Bool
section
variable (P : Program)
def depOf (o : Oper) : Nat := maskL ((o.after.toList.filter (Region.binds .any)).map (·.on))
def smOf (ops : Array Oper) (i : Nat) (o : Oper) : Sm := ⟨bit1 i, depOf o, bitD o.dst, maskL (o.looksAt ops), takeable P o⟩
def smL (ops : Array Oper) : List Oper → Nat → List Sm
 | [], _ => []
 | o :: l, i => smOf P ops i o :: smL ops l (Nat.succ i)
end
def readyL : List Sm → Nat → Nat → List Nat
 | [], _, _ => []
 | s :: l, i, m => bif no1 m s.bit then (bif subM s.dep m then i :: readyL l (Nat.succ i) m else readyL l (Nat.succ i) m) else readyL l (Nat.succ i) m
/-- The masks stand for the list of what is done. -/
def ML (n : Nat) (listed : Array Bool) (m : Nat) : Prop := listed.size = n ∧ (∀ j, j < n → listed.getD j true = Nat.testBit m j) ∧ ∀ j, n ≤ j → Nat.testBit m j = false
theorem ML.get {n : Nat} {listed : Array Bool} {m : Nat} (h : ML n listed m) (j : Nat) : listed.getD j false = Nat.testBit m j := by
 by_cases hj : j < n
 · rw [← h.2.1 j hj]
   have : j < listed.size := by rw [h.1]; exact hj
   simp [Array.getD, this]
 · rw [h.2.2 j (by omega)]
   have : ¬ j < listed.size := by rw [h.1]; exact hj
   simp [Array.getD, this]
theorem ML.start (n : Nat) : ML n (Array.replicate n false) 0 := ⟨by simp, fun j hj => by simp [Array.getD, hj], fun j _ => Nat.zero_testBit j⟩
theorem ML.set {n : Nat} {listed : Array Bool} {m i : Nat} (h : ML n listed m) (hi : i < n) : ML n (listed.setIfInBounds i true) (Nat.lor m (bit1 i)) := by
 refine ⟨by simp [h.1], fun j hj => ?_, fun j hj => ?_⟩
 · show _ = Nat.testBit (m ||| bit1 i) j
   rw [Nat.testBit_or, testBit_bit1, ← h.2.1 j hj]
   have hjs : j < listed.size := by rw [h.1]; exact hj
   rw [Array.getD_eq_getD_getElem?, Array.getD_eq_getD_getElem?, Array.getElem?_setIfInBounds]
   by_cases hij : i = j
   · subst hij
     simp [hjs]
   · simp [hij]
 · show Nat.testBit (m ||| bit1 i) j = _
   rw [Nat.testBit_or, testBit_bit1, h.2.2 j hj]
   have : ¬ i = j := by omega
   simp [this]
theorem testBit_dep (o : Oper) (i : Nat) : Nat.testBit (depOf o) i = true ↔ ∃ e ∈ o.after, Region.binds .any e = true ∧ e.on = i := by
 unfold depOf
 rw [testBit_maskL, List.contains_iff_mem]
 simp only [List.mem_map, List.mem_filter, Array.mem_toList_iff]
 constructor
 · rintro ⟨e, ⟨h1, h2⟩, h3⟩
   exact ⟨e, h1, h2, h3⟩
 · rintro ⟨e, h1, h2, h3⟩
   exact ⟨e, ⟨h1, h2⟩, h3⟩
section
variable {P : Program} {ops : Array Oper} {listed : Array Bool} {m : Nat}
/-- Is it ready? -/
def rdy (ops : Array Oper) (listed : Array Bool) (i : Nat) : Bool := !listed.getD i true && ((ops[i]?).map (·.after.all fun e => !Region.binds .any e || listed.getD e.on false)).getD false
theorem rdy_eq (h : ML ops.size listed m) {i : Nat} {o : Oper} (ho : ops[i]? = some o) : rdy ops listed i = (no1 m (bit1 i) && subM (depOf o) m) := by
 have hi : i < ops.size := (Array.getElem?_eq_some_iff.1 ho).1
 unfold rdy
 rw [no1_bit, h.2.1 i hi, ho]
 congr 1
 simp only [Option.map_some, Option.getD_some]
 rw [Bool.eq_iff_iff, subM_iff, Array.all_eq_true_iff_forall_mem]
 constructor
 · intro hall j hj
   obtain ⟨e, he, hb, rfl⟩ := (testBit_dep o j).1 hj
   have := hall e he
   rw [hb, h.get] at this
   simpa using this
 · intro hsub e he
   cases hb : Region.binds .any e with
   | false => rfl
   | true =>
    have := hsub e.on ((testBit_dep o e.on).2 ⟨e, he, hb, rfl⟩)
    rw [h.get, this]
    rfl
theorem readyL_eq (h : ML ops.size listed m) : ∀ (l : List Oper) (i : Nat), (∀ j o, l[j]? = some o → ops[i + j]? = some o) → readyL (smL P ops l i) i m = (List.range' i l.length).filter (rdy ops listed)
 | [], _, _ => rfl
 | o :: l, i, hl => by
  have ho := hl 0 o rfl
  simp only [Nat.add_zero] at ho
  have ih := readyL_eq h l (i + 1) (fun j q hq => by
   have := hl (j + 1) q (by simpa using hq)
   rwa [show i + 1 + j = i + (j + 1) by omega])
  rw [List.length_cons, List.range'_succ, List.filter_cons, rdy_eq h ho]
  show (bif no1 m (bit1 i) then (bif subM (depOf o) m then i :: readyL (smL P ops l (i + 1)) (i + 1) m else readyL (smL P ops l (i + 1)) (i + 1) m) else readyL (smL P ops l (i + 1)) (i + 1) m) = _
  rw [ih]
  cases no1 m (bit1 i) <;> cases subM (depOf o) m <;> rfl
theorem ready_eq (h : ML ops.size listed m) : readyL (smL P ops ops.toList 0) 0 m = Region.ready .any ops listed := by
 rw [readyL_eq h ops.toList 0 (fun j o hj => by rw [Nat.zero_add, ← Array.getElem?_toList]; exact hj)]
 show _ = (List.range ops.size).filter (rdy ops listed)
 rw [List.range_eq_range', Array.length_toList]
end
def nthS : List Sm → Nat → Option Sm
 | [], _ => none
 | s :: _, 0 => some s
 | _ :: l, Nat.succ i => nthS l i
def apartS (x y : Sm) : Bool := no1 y.look x.dst && no1 y.dst x.dst && no1 x.look y.dst
/-- Is nothing that is left in the way of x? -/
def freeL (x : Sm) (m : Nat) : List Sm → Bool
 | [] => true
 | y :: l => (bif Nat.beq x.bit y.bit then true else bif no1 m y.bit then (bif no1 y.dep x.bit then apartS x y else true) else true) && freeL x m l
section
variable {P : Program} {ops : Array Oper} {listed : Array Bool} {m : Nat}
theorem no1_bitD (k : Nat) (d : Option Nat) : no1 k (bitD d) = match d with | some d => !Nat.testBit k d | none => true := by
 cases d with
 | some d => exact no1_bit k d
 | none =>
  show Nat.beq (Nat.land k 0) 0 = true
  rw [Nat.beq_eq]
  exact Nat.and_zero k
theorem apart_eq (x y : Oper) (i j : Nat) : apartS (smOf P ops i x) (smOf P ops j y) = x.apart ops y := by
 unfold apartS Oper.apart
 show (no1 (maskL (y.looksAt ops)) (bitD x.dst) && no1 (bitD y.dst) (bitD x.dst) && no1 (maskL (x.looksAt ops)) (bitD y.dst)) = _
 rw [no1_bitD, no1_bitD, no1_bitD]
 cases hx : x.dst with
 | none =>
  cases hy : y.dst with
  | none => rfl
  | some e => simp only [testBit_maskL, Bool.true_and]
 | some d =>
  cases hy : y.dst with
  | none =>
   simp only [testBit_maskL, Bool.and_true]
   show (!(y.looksAt ops).contains d && !Nat.testBit 0 d) = _
   rw [Nat.zero_testBit]
   rfl
  | some e =>
   simp only [testBit_maskL]
   show (!(y.looksAt ops).contains d && !Nat.testBit (bit1 e) d && !(x.looksAt ops).contains e) = _
   rw [testBit_bit1]
   have h1 : (some e != some d) = !decide (e = d) := by
    by_cases hed : e = d
    · subst hed
      simp
    · simp [hed]
   simp only [h1]
/-- What is asked of one that is left. -/
def frees (ops : Array Oper) (listed : Array Bool) (i : Nat) (oi : Oper) (j : Nat) : Bool := j == i || listed.getD j true || match ops[j]? with
      | some oj => oj.after.any (fun e => Region.binds .any e && e.on == i) || oi.apart ops oj
      | none => true
theorem bit1_inj {i j : Nat} (h : bit1 i = bit1 j) : i = j := by
 have := testBit_bit1 j i
 rw [← h, testBit_bit1] at this
 simp at this
 exact this.symm
theorem frees_eq (h : ML ops.size listed m) {i j : Nat} {oi oj : Oper} (hj : ops[j]? = some oj) : (bif Nat.beq (bit1 i) (bit1 j) then true else bif no1 m (bit1 j) then (bif no1 (depOf oj) (bit1 i) then apartS (smOf P ops i oi) (smOf P ops j oj) else true) else true) = frees ops listed i oi j := by
 have hjn : j < ops.size := (Array.getElem?_eq_some_iff.1 hj).1
 unfold frees
 rw [hj, h.2.1 j hjn, no1_bit, no1_bit, apart_eq]
 have he : (oj.after.any fun e => Region.binds .any e && e.on == i) = Nat.testBit (depOf oj) i := by
  rw [Bool.eq_iff_iff, testBit_dep, Array.any_eq_true']
  constructor
  · rintro ⟨e, h1, h2⟩
    simp only [Bool.and_eq_true, beq_iff_eq] at h2
    exact ⟨e, h1, h2⟩
  · rintro ⟨e, h1, h2⟩
    exact ⟨e, h1, by simp only [Bool.and_eq_true, beq_iff_eq]; exact h2⟩
 simp only [he]
 by_cases hij : j = i
 · subst hij
   simp
 · have : Nat.beq (bit1 i) (bit1 j) = false := by
    cases hb : Nat.beq (bit1 i) (bit1 j) with
    | false => rfl
    | true => exact absurd (bit1_inj (Nat.eq_of_beq_eq_true hb)).symm hij
   have h2 : (j == i) = false := by simpa using hij
   rw [this, h2]
   cases Nat.testBit m j <;> cases Nat.testBit (depOf oj) i <;> rfl
theorem freeL_eq (h : ML ops.size listed m) {i : Nat} {oi : Oper} : ∀ (l : List Oper) (j : Nat), (∀ k o, l[k]? = some o → ops[j + k]? = some o) → freeL (smOf P ops i oi) m (smL P ops l j) = (List.range' j l.length).all (frees ops listed i oi)
 | [], _, _ => rfl
 | o :: l, j, hl => by
  have ho := hl 0 o rfl
  simp only [Nat.add_zero] at ho
  have ih := freeL_eq h (i := i) (oi := oi) l (j + 1) (fun k q hq => by
   have := hl (k + 1) q (by simpa using hq)
   rwa [show j + 1 + k = j + (k + 1) by omega])
  rw [List.length_cons, List.range'_succ, List.all_cons, ← ih, ← frees_eq (P := P) h ho]
  rfl
theorem nthS_eq : ∀ (l : List Oper) (j i : Nat), nthS (smL P ops l j) i = (l[i]?).map (smOf P ops (j + i))
 | [], _, _ => rfl
 | o :: l, j, 0 => rfl
 | o :: l, j, i + 1 => by
  show nthS (smL P ops l (j + 1)) i = _
  rw [nthS_eq l (j + 1) i, List.getElem?_cons_succ, show j + 1 + i = j + (i + 1) by omega]
end
/-- Is one that is left free? -/
def freeS (sm : List Sm) (m i : Nat) : Bool := match nthS sm i with
 | some x => freeL x m sm
 | none => false
theorem freeS_eq {P : Program} {ops : Array Oper} {listed : Array Bool} {m : Nat} (h : ML ops.size listed m) (i : Nat) : freeS (smL P ops ops.toList 0) m i = Region.free .any ops listed i := by
 unfold freeS Region.free
 rw [nthS_eq, Array.getElem?_toList]
 cases ho : ops[i]? with
 | none => rfl
 | some o =>
  simp only [Option.map_some, Nat.zero_add]
  rw [freeL_eq h ops.toList 0 (fun j o hj => by rw [Nat.zero_add, ← Array.getElem?_toList]; exact hj)]
  show _ = (List.range ops.size).all (frees ops listed i o)
  rw [List.range_eq_range', Array.length_toList]
def tkS (sm : List Sm) (m i : Nat) : Bool := match nthS sm i with
 | some x => x.tk && freeL x m sm
 | none => false
theorem tkS_eq {P : Program} {ops : Array Oper} {listed : Array Bool} {m : Nat} (h : ML ops.size listed m) (i : Nat) : tkS (smL P ops ops.toList 0) m i = match ops[i]? with
      | some o => takeable P o && Region.free .any ops listed i
      | none => false := by
 have hf := freeS_eq (P := P) h i
 unfold freeS at hf
 unfold tkS
 rw [nthS_eq, Array.getElem?_toList] at hf ⊢
 cases ho : ops[i]? with
 | none => rfl
 | some o =>
  rw [ho] at hf
  simp only [Option.map_some] at hf ⊢
  rw [hf]
  rfl
/-- The order, by masks. -/
def schS (sm : List Sm) : Nat → Nat → Sch
 | 0, _ => .done
 | n + 1, m => match readyL sm 0 m with
   | [] => .done
   | [i] => .one i (fN (Nat.lor m (bit1 i)) fun m => schS sm n m)
   | rs => match rs.find? (tkS sm m) with
     | some i => .take i (fN (Nat.lor m (bit1 i)) fun m => schS sm n m)
     | none => match rs with
       | [i, j] => .two i j (fN (Nat.lor m (bit1 i)) fun m => schS sm n m) (fN (Nat.lor m (bit1 j)) fun m => schS sm n m)
       | [i, j, k] => .three i j k (fN (Nat.lor m (bit1 i)) fun m => schS sm n m) (fN (Nat.lor m (bit1 j)) fun m => schS sm n m) (fN (Nat.lor m (bit1 k)) fun m => schS sm n m)
       | _ => .done
def okS (sm : List Sm) : Nat → Sch → Nat → Bool
 | _, .done, m => (readyL sm 0 m).isEmpty
 | n + 1, .take i l, m => (readyL sm 0 m).contains i && freeS sm m i && fN (Nat.lor m (bit1 i)) fun m => okS sm n l m
 | n + 1, .one i l, m => (readyL sm 0 m == [i]) && fN (Nat.lor m (bit1 i)) fun m => okS sm n l m
 | n + 1, .two i j l k, m => (readyL sm 0 m == [i, j]) && (fN (Nat.lor m (bit1 i)) fun m => okS sm n l m) && fN (Nat.lor m (bit1 j)) fun m => okS sm n k m
 | n + 1, .three i j k l p q, m => (readyL sm 0 m == [i, j, k]) && (fN (Nat.lor m (bit1 i)) fun m => okS sm n l m) && (fN (Nat.lor m (bit1 j)) fun m => okS sm n p m) && fN (Nat.lor m (bit1 k)) fun m => okS sm n q m
 | 0, _, _ => false
section
variable {P : Program} {ops : Array Oper}
theorem in_ready {listed : Array Bool} {i : Nat} (h : i ∈ Region.ready .any ops listed) : i < ops.size := by
 unfold Region.ready at h
 exact List.mem_range.1 (List.mem_filter.1 h).1
theorem schS_eq : ∀ (n : Nat) (listed : Array Bool) (m : Nat), ML ops.size listed m → schS (smL P ops ops.toList 0) n m = sched P ops n listed
 | 0, _, _, _ => rfl
 | n + 1, listed, m, h => by
  have hr := ready_eq (P := P) h
  have hin : ∀ i, i ∈ readyL (smL P ops ops.toList 0) 0 m → schS (smL P ops ops.toList 0) n (Nat.lor m (bit1 i)) = sched P ops n (listed.setIfInBounds i true) := fun i hi => schS_eq n _ _ (h.set (in_ready (by rw [← hr]; exact hi)))
  have htk : tkS (smL P ops ops.toList 0) m = fun i => match ops[i]? with
      | some o => takeable P o && Region.free .any ops listed i
      | none => false := funext fun i => tkS_eq h i
  unfold schS sched
  rw [← hr]
  generalize hrs : readyL (smL P ops ops.toList 0) 0 m = rs at hin
  simp only [fN_eq, htk]
  cases rs with
  | nil => rfl
  | cons a t =>
   cases t with
   | nil =>
    simp only
    rw [hin a (by simp)]
   | cons b u =>
    simp only
    cases hf : (a :: b :: u).find? (fun i => match ops[i]? with
      | some o => takeable P o && Region.free .any ops listed i
      | none => false) with
    | some i =>
     simp only
     rw [hin i (List.mem_of_find?_eq_some hf)]
    | none =>
     cases u with
     | nil =>
      simp only
      rw [hin a (by simp), hin b (by simp)]
     | cons c v =>
      cases v with
      | nil =>
       simp only
       rw [hin a (by simp), hin b (by simp), hin c (by simp)]
      | cons _ _ => rfl
theorem okS_eq : ∀ (s : Sch) (n : Nat) (listed : Array Bool) (m : Nat), ML ops.size listed m → okS (smL P ops ops.toList 0) n s m = schedOk ops n s listed := by
 intro s
 induction s with
 | done =>
  intro n listed m h
  cases n <;> (unfold okS schedOk; rw [ready_eq h])
 | take i l ih =>
  intro n listed m h
  cases n with
  | zero => rfl
  | succ n =>
   unfold okS schedOk
   rw [ready_eq h, freeS_eq h, fN_eq]
   cases hc : (Region.ready .any ops listed).contains i with
   | false => rfl
   | true => rw [ih n _ _ (h.set (in_ready (by simpa using hc)))]
 | one i l ih =>
  intro n listed m h
  cases n with
  | zero => rfl
  | succ n =>
   unfold okS schedOk
   rw [ready_eq h, fN_eq]
   cases hc : (Region.ready .any ops listed == [i]) with
   | false => rfl
   | true => rw [ih n _ _ (h.set (in_ready (by rw [beq_iff_eq.1 hc]; simp)))]
 | two i j l k ih1 ih2 =>
  intro n listed m h
  cases n with
  | zero => rfl
  | succ n =>
   unfold okS schedOk
   rw [ready_eq h, fN_eq, fN_eq]
   cases hc : (Region.ready .any ops listed == [i, j]) with
   | false => rfl
   | true => rw [ih1 n _ _ (h.set (in_ready (by rw [beq_iff_eq.1 hc]; simp))), ih2 n _ _ (h.set (in_ready (by rw [beq_iff_eq.1 hc]; simp)))]
 | three i j k l p q ih1 ih2 ih3 =>
  intro n listed m h
  cases n with
  | zero => rfl
  | succ n =>
   unfold okS schedOk
   rw [ready_eq h, fN_eq, fN_eq, fN_eq]
   cases hc : (Region.ready .any ops listed == [i, j, k]) with
   | false => rfl
   | true => rw [ih1 n _ _ (h.set (in_ready (by rw [beq_iff_eq.1 hc]; simp))), ih2 n _ _ (h.set (in_ready (by rw [beq_iff_eq.1 hc]; simp))), ih3 n _ _ (h.set (in_ready (by rw [beq_iff_eq.1 hc]; simp)))]
end
end Go.Ev
namespace Go.Ev
open Go Go.RowKit
section
variable (P : Program) (K : Hk)
noncomputable def wantedG (ops : Array Oper) (A : Fr) (o : Oper) : Option Bool := Option.rec (motive := fun _ => Option Bool) (some true) (fun _ => wantedA ops A o) o.guard
theorem wantedG_eq (ops : Array Oper) (A : Fr) (o : Oper) : wantedG ops A o = wantedA ops A o := by
 obtain ⟨dst, op, ty, pos, after, guard⟩ := o
 cases guard <;> rfl
noncomputable def runOut (call : CallT) (A : Fr) (n : Nat) (t : Tr AO) (m : Nat) (o : Oper) (x : Out) : Option St :=
 Out.rec (motive := fun _ => Option St) (fun v us => gPut A n t m o.dst v us some) (fun f xs => gN f fun f => match call f xs ⟨t, m⟩ with
  | some (v, ⟨t', m'⟩) => gPut A n t' m' o.dst v [] some
  | none => none) (match K.ru A ⟨t, m⟩ o with
  | some (v, us) => gPut A n t m o.dst v us some
  | none => none) x
noncomputable def doOpG (call : CallT) (ops : Array Oper) (s : St) (o : Oper) : Option St := match s with
 | ⟨A, n, ⟨t, m⟩⟩ => match wantedG ops A o with
  | some true => runOut K call A n t m o (opF P A ⟨t, m⟩ o)
  | some false => gPut A n t m o.dst undefA [] some
  | none => none
theorem doOpG_eq (call : CallT) (ops : Array Oper) (s : St) (o : Oper) : doOpG P K call ops s o = doOp P K call ops s o := by
 obtain ⟨A, n, t, m⟩ := s
 unfold doOpG doOp
 simp only [wantedG_eq, opF_eq, gPut_eq]
 cases wantedA ops A o with
 | none => rfl
 | some b =>
  cases b with
  | false => rfl
  | true =>
   simp only
   unfold opS
   cases evPure P A o with
   | some v => exact gPut_eq _ _ _ _ _ _ _ _
   | none =>
    cases evRead P A ⟨t, m⟩ o with
    | some v => exact gPut_eq _ _ _ _ _ _ _ _
    | none =>
     cases evEff P A ⟨t, m⟩ o with
     | some p => obtain ⟨v, us⟩ := p; exact gPut_eq _ _ _ _ _ _ _ _
     | none =>
      cases evEnter A ⟨t, m⟩ o with
      | none =>
       show (match K.ru A ⟨t, m⟩ o with | some (v, us) => gPut A n t m o.dst v us some | none => none) = (match K.ru A ⟨t, m⟩ o with | some (v, us) => putF ⟨A, n, ⟨t, m⟩⟩ o.dst v us some | none => none)
       cases K.ru A ⟨t, m⟩ o with
       | none => rfl
       | some p => exact gPut_eq _ _ _ _ _ _ _ _
      | some p =>
       obtain ⟨f, xs⟩ := p
       show (gN f fun f => match call f xs ⟨t, m⟩ with | some (v, ⟨t', m'⟩) => gPut A n t' m' o.dst v [] some | none => none) = fN f fun f => match call f xs ⟨t, m⟩ with | some (v, h') => putF ⟨A, n, h'⟩ o.dst v [] some | none => none
       rw [gN_eq, fN_eq]
       cases call f xs ⟨t, m⟩ with
       | none => rfl
       | some q =>
        obtain ⟨v, t', m'⟩ := q
        exact gPut_eq _ _ _ _ _ _ _ _
noncomputable def doOpsG (call : CallT) (ops : Array Oper) (l : List Oper) : St → Option St := List.rec (motive := fun _ => St → Option St) (fun s => some s) (fun o _ ih s => match doOpG P K call ops s o with
  | some s' => ih s'
  | none => none) l
theorem doOpsG_eq (call : CallT) (ops : Array Oper) : ∀ (l : List Oper) (s : St), doOpsG P K call ops l s = doOps P K call ops l s
 | [], _ => rfl
 | o :: l, s => by
  show (match doOpG P K call ops s o with | some s' => doOpsG P K call ops l s' | none => none) = _
  unfold doOps
  rw [doOpG_eq]
  cases doOp P K call ops s o with
  | none => rfl
  | some s' => exact doOpsG_eq call ops l s'
/-! ### Drawn regions -/
noncomputable def gSm (s : Sm) {β : Type} (k : Sm → β) : β := Sm.rec (motive := fun _ => β) (fun b d t l tk => gN b fun b => gN d fun d => gN t fun t => gN l fun l => fB tk fun tk => k ⟨b, d, t, l, tk⟩) s
theorem gSm_eq {β : Type} (s : Sm) (k : Sm → β) : gSm s k = k s := by
 obtain ⟨b, d, t, l, tk⟩ := s
 simp only [gSm, gN_eq, fB_eq]
noncomputable def gSms {β : Type} (l : List Sm) (k : List Sm → β) : β := gL (fun s k => gSm s k) l k
theorem gSms_eq {β : Type} (l : List Sm) (k : List Sm → β) : gSms l k = k l := gL_eq (fun s k => gSm_eq s k) l k
/-- The order, worked out. -/
noncomputable def gSch {β : Type} (s : Sch) : (Sch → β) → β := Sch.rec (motive := fun _ => (Sch → β) → β) (fun k => k .done) (fun i _ ih k => gN i fun i => ih fun t => k (.take i t)) (fun i _ ih k => gN i fun i => ih fun t => k (.one i t)) (fun i j _ _ ih1 ih2 k => gN i fun i => gN j fun j => ih1 fun t => ih2 fun u => k (.two i j t u)) (fun i j m _ _ _ ih1 ih2 ih3 k => gN i fun i => gN j fun j => gN m fun m => ih1 fun t => ih2 fun u => ih3 fun v => k (.three i j m t u v)) s
theorem gSch_eq {β : Type} : ∀ (s : Sch) (k : Sch → β), gSch s k = k s := by
 intro s
 induction s with
 | done => intro k; rfl
 | take i t ih => intro k; show gN i (fun i => gSch t fun t => k (.take i t)) = _; rw [gN_eq, ih]
 | one i t ih => intro k; show gN i (fun i => gSch t fun t => k (.one i t)) = _; rw [gN_eq, ih]
 | two i j t u ih1 ih2 => intro k; show gN i (fun i => gN j fun j => gSch t fun t => gSch u fun u => k (.two i j t u)) = _; rw [gN_eq, gN_eq, ih1, ih2]
 | three i j m t u v ih1 ih2 ih3 => intro k; show gN i (fun i => gN j fun j => gN m fun m => gSch t fun t => gSch u fun u => gSch v fun v => k (.three i j m t u v)) = _; rw [gN_eq, gN_eq, gN_eq, ih1, ih2, ih3]
/-- An order that serves, or none. -/
noncomputable def planG (ops : Array Oper) : Option Sch := gSms (smL P ops ops.toList 0) fun sm => gSch (schS sm ops.size 0) fun l => match okS sm ops.size l 0 && Region.noSelect ops with
 | true => some l
 | false => none
theorem planG_eq (ops : Array Oper) : planG P ops = (match schedOk ops ops.size (sched P ops ops.size (Array.replicate ops.size false)) (Array.replicate ops.size false) && Region.noSelect ops with
 | true => some (sched P ops ops.size (Array.replicate ops.size false))
 | false => none) := by
 unfold planG
 rw [gSms_eq, gSch_eq, schS_eq _ _ _ (ML.start ops.size), okS_eq _ _ _ _ (ML.start ops.size)]
noncomputable def oPure (A : Fr) (o : Oper) : Option AV := match o.op with
 | .move x => gA A x
 | .assign x => gA A x
 | .binOp op t x y _ => Option.rec (motive := fun _ => Option AV) none (fun a => Option.rec (motive := fun _ => Option AV) none (fun b => bin1 P op t x y a b) (gA A y)) (gA A x)
 | .load _ _ => none
 | _ => evPure P A o
theorem oPure_eq (A : Fr) (o : Oper) : oPure P A o = evPure P A o := by
 obtain ⟨dst, op, ty, pos, after, guard⟩ := o
 cases op <;> try rfl
 case move x => exact gA_eq A x
 case assign x => exact gA_eq A x
 case binOp op t x y yt =>
  show Option.rec (motive := fun _ => Option AV) none (fun a => Option.rec (motive := fun _ => Option AV) none (fun b => bin1 P op t x y a b) (gA A y)) (gA A x) = _
  rw [gA_eq, gA_eq]
  have e : evPure P A ⟨dst, .binOp op t x y yt, ty, pos, after, guard⟩ = (evA A x).bind fun a => (evA A y).bind fun b => slowBin P op t x y a b := rfl
  rw [e]
  cases evA A x with
  | none => rfl
  | some a =>
   cases evA A y with
   | none => rfl
   | some b => exact bin1_eq P op t x y a b
noncomputable def doOpDG (call : CallT) (ops : Array Oper) (n0 i : Nat) (s : St) (o : Oper) : Option St :=
 match o.op with
 | .alloc e => doOpD P K call ops n0 i s o
 | .buildSlice .. => doOpD P K call ops n0 i s o
 | .makeFunc .. => doOpD P K call ops n0 i s o
 | _ => doOpG P K call ops s o
theorem doOpDG_eq (call : CallT) (ops : Array Oper) (n0 i : Nat) (s : St) (o : Oper) : doOpDG P K call ops n0 i s o = doOpD P K call ops n0 i s o := by
 obtain ⟨dst, op, ty, pos, after, guard⟩ := o
 cases op <;> first | rfl | exact doOpG_eq P K call ops s _
noncomputable def runG (call : CallT) (ops : Array Oper) (n0 : Nat) (l : Sch) : St → Option (St × List FactA × List (Nat × Hp)) := Sch.rec (motive := fun _ => St → Option (St × List FactA × List (Nat × Hp)))
 (fun s => some (s, [], []))
 (fun i _ ih s => match ops[i]? with
  | some o => match s with
   | ⟨A, n, ⟨t, m⟩⟩ => match wantedG ops A o with
    | some true => match oPure P A o with
      | some v => gPut A n t m o.dst v [] ih
      | none => match K.rp A ⟨t, m⟩ o with
        | some (v, d) => match gPut A n t m o.dst v [] ih with
          | some (s', fs, hs) => some (s', dFact i d ++ fs, hs)
          | none => none
        | none => match evSpot P A o with
          | some (g, f) => match cellsAt ⟨t, m⟩ f with
            | some cs => match spotVal g cs with
              | some v => match gPut A n t m o.dst v [] ih with
                | some (s', fs, hs) => some (s', (i, .inl (f, cs)) :: fs, hs)
                | none => none
              | none => none
            | none => none
          | none => none
    | some false => gPut A n t m o.dst undefA [] ih
    | none => none
  | none => none)
 (fun i _ ih s => match ops[i]? with
  | some o => match doOpDG P K call ops n0 i s o with
    | some s1 => match ih s1 with
      | some (s', fs, hs) => some (s', fs, (i, s1.h) :: hs)
      | none => none
    | none => none
  | none => none)
 (fun i j _ _ ih1 ih2 s => match ops[i]?, ops[j]? with
  | some o, some q => match doOpDG P K call ops n0 i s o, doOpDG P K call ops n0 j s q with
    | some s1, some s2 => match ih1 s1, ih2 s2 with
      | some (s', fs, hs), some (s2', fs2, hs2) => if s' = s2' then some (s', fs ++ fs2, (i, s1.h) :: (j, s2.h) :: (hs ++ hs2)) else none
      | _, _ => none
    | _, _ => none
  | _, _ => none)
 (fun i j k _ _ _ ih1 ih2 ih3 s => match ops[i]?, ops[j]?, ops[k]? with
  | some o, some q, some r => match doOpDG P K call ops n0 i s o, doOpDG P K call ops n0 j s q, doOpDG P K call ops n0 k s r with
    | some s1, some s2, some s3 => match ih1 s1, ih2 s2, ih3 s3 with
      | some (s', fs, hs), some (s2', fs2, hs2), some (s3', fs3, hs3) => if s' = s2' ∧ s' = s3' then some (s', fs ++ (fs2 ++ fs3), (i, s1.h) :: (j, s2.h) :: (k, s3.h) :: (hs ++ (hs2 ++ hs3))) else none
      | _, _, _ => none
    | _, _, _ => none
  | _, _, _ => none) l
theorem gPut_fn {β : Type} (A : Fr) (n : Nat) (t : Tr AO) (m : Nat) (d : Option Tmp) (v : AV) (us : List U) {k k' : St → Option β} (hk : ∀ s, k s = k' s) : gPut A n t m d v us k = putF ⟨A, n, ⟨t, m⟩⟩ d v us k' := by
 rw [gPut_eq, show k = k' from funext hk]
theorem runG_eq (call : CallT) (ops : Array Oper) (n0 : Nat) : ∀ (l : Sch) (s : St), runG P K call ops n0 l s = runSch P K call ops n0 l s := by
 intro l
 induction l with
 | done => intro s; rfl
 | take i l ih =>
  intro s
  obtain ⟨A, n, t, m⟩ := s
  show (match ops[i]? with
  | some o => match wantedG ops A o with
    | some true => match oPure P A o with
      | some v => gPut A n t m o.dst v [] (runG P K call ops n0 l)
      | none => match K.rp A ⟨t, m⟩ o with
        | some (v, d) => match gPut A n t m o.dst v [] (runG P K call ops n0 l) with
          | some (s', fs, hs) => some (s', dFact i d ++ fs, hs)
          | none => none
        | none => match evSpot P A o with
          | some (g, f) => match cellsAt ⟨t, m⟩ f with
            | some cs => match spotVal g cs with
              | some v => match gPut A n t m o.dst v [] (runG P K call ops n0 l) with
                | some (s', fs, hs) => some (s', (i, .inl (f, cs)) :: fs, hs)
                | none => none
              | none => none
            | none => none
          | none => none
    | some false => gPut A n t m o.dst undefA [] (runG P K call ops n0 l)
    | none => none
  | none => none) = _
  unfold runSch
  cases ops[i]? with
  | none => rfl
  | some o =>
   simp only [wantedG_eq, oPure_eq, gPut_fn A n t m _ _ _ ih]
   rfl
 | one i l ih =>
  intro s
  show (match ops[i]? with
  | some o => match doOpDG P K call ops n0 i s o with
    | some s1 => match runG P K call ops n0 l s1 with
      | some (s', fs, hs) => some (s', fs, (i, s1.h) :: hs)
      | none => none
    | none => none
  | none => none) = _
  unfold runSch
  simp only [doOpDG_eq, ih]
  rfl
 | two i j l k ih1 ih2 =>
  intro s
  show (match ops[i]?, ops[j]? with
  | some o, some q => match doOpDG P K call ops n0 i s o, doOpDG P K call ops n0 j s q with
    | some s1, some s2 => match runG P K call ops n0 l s1, runG P K call ops n0 k s2 with
      | some (s', fs, hs), some (s2', fs2, hs2) => if s' = s2' then some (s', fs ++ fs2, (i, s1.h) :: (j, s2.h) :: (hs ++ hs2)) else none
      | _, _ => none
    | _, _ => none
  | _, _ => none) = _
  unfold runSch
  simp only [doOpDG_eq, ih1, ih2]
  rfl
 | three i j k l m p ih1 ih2 ih3 =>
  intro s
  show (match ops[i]?, ops[j]?, ops[k]? with
  | some o, some q, some r => match doOpDG P K call ops n0 i s o, doOpDG P K call ops n0 j s q, doOpDG P K call ops n0 k s r with
    | some s1, some s2, some s3 => match runG P K call ops n0 l s1, runG P K call ops n0 m s2, runG P K call ops n0 p s3 with
      | some (s', fs, hs), some (s2', fs2, hs2), some (s3', fs3, hs3) => if s' = s2' ∧ s' = s3' then some (s', fs ++ (fs2 ++ fs3), (i, s1.h) :: (j, s2.h) :: (k, s3.h) :: (hs ++ (hs2 ++ hs3))) else none
      | _, _, _ => none
    | _, _, _ => none
  | _, _, _ => none) = _
  unfold runSch
  simp only [doOpDG_eq, ih1, ih2, ih3]
  rfl
noncomputable def drawnG (call : CallT) (ops : Array Oper) (s : St) : Option St := match planG P ops with
 | some l => match s with
  | ⟨A, n, ⟨t, n0⟩⟩ => gN (n0 + allocNo ops ops.size) fun m => if m ≤ 2 ^ D then match runG P K call ops n0 l ⟨A, n, ⟨t, m⟩⟩ with
    | some (s', fs, hs) => match fs.all (factsOk ops n0 ⟨t, m⟩ hs) with
      | true => some s'
      | false => none
    | none => none
   else none
 | none => none
theorem drawnG_eq (call : CallT) (ops : Array Oper) (s : St) : drawnG P K call ops s = doDrawn P K call ops s := by
 obtain ⟨A, n, t, n0⟩ := s
 unfold drawnG doDrawn
 rw [planG_eq]
 simp only [fN_eq, gN_eq, runG_eq]
 cases schedOk ops ops.size (sched P ops ops.size (Array.replicate ops.size false)) (Array.replicate ops.size false) && Region.noSelect ops with
 | false => rfl
 | true => rfl
noncomputable def callG (ev : EvT) : CallT := fun f xs h =>
 match K.ex f xs h with
 | some r => some r
 | none => match P.funcs[f]? with
   | some fn => match fn.body with
     | some b => if Nat.max fn.ntmps xs.length ≤ 256 then gN (Nat.max fn.ntmps xs.length) fun n => gArgs xs 0 (.lf none) fun A => match ev f [] b ⟨A, n, h⟩ with
       | some (.normal, s') | some (.ret, s') => match s' with
          | ⟨A, _, h⟩ => (resultsA P fn A h).map fun v => (v, h)
       | _ => none
      else none
     | none => none
   | none => none
theorem callG_eq (ev ev' : EvT) (he : ∀ f p c s, ev f p c s = ev' f p c s) : callG P K ev = callA P K ev' := by
 funext f xs h
 unfold callG callA
 simp only [gN_eq, gArgs_eq, fArgs_eq, he]
 rfl
noncomputable def thenG (r : Option (X × St)) (k : St → Option (X × St)) : Option (X × St) :=
 Option.rec (motive := fun _ => Option (X × St)) none (fun p => Prod.rec (motive := fun _ => Option (X × St)) (fun x s => X.rec (motive := fun _ => Option (X × St)) (k s) (fun j => some (.exit j, s)) (some (.ret, s)) x) p) r
theorem thenG_eq (r : Option (X × St)) (k : St → Option (X × St)) : thenG r k = match r with | some (.normal, s') => k s' | r => r := by
 cases r with
 | none => rfl
 | some p =>
  obtain ⟨x, s⟩ := p
  cases x <;> rfl
noncomputable def blockG (id : Nat) (r : Option (X × St)) : Option (X × St) :=
 Option.rec (motive := fun _ => Option (X × St)) none (fun p => Prod.rec (motive := fun _ => Option (X × St)) (fun x s => X.rec (motive := fun _ => Option (X × St)) (some (.normal, s)) (fun j => Bool.rec (motive := fun _ => Option (X × St)) (some (.exit j, s)) (some (.normal, s)) (Nat.beq j id)) (some (.ret, s)) x) p) r
theorem blockG_eq (id : Nat) (r : Option (X × St)) : blockG id r = match r with
    | some (.exit j, s') => if j = id then some (.normal, s') else some (.exit j, s')
    | r => r := by
 cases r with
 | none => rfl
 | some p =>
  obtain ⟨x, s⟩ := p
  cases x with
  | normal => rfl
  | ret => rfl
  | exit j =>
   show (Bool.rec (motive := fun _ => Option (X × St)) (some (.exit j, s)) (some (.normal, s)) (Nat.beq j id)) = if j = id then some (.normal, s) else some (.exit j, s)
   by_cases h : j = id
   · subst h
     simp
   · have : Nat.beq j id = false := by
      cases hb : Nat.beq j id with
      | false => rfl
      | true => exact absurd (Nat.eq_of_beq_eq_true hb) h
     rw [this, if_neg h]
noncomputable def regionG (call : CallT) (ops : Array Oper) (d : Bool) (s : St) : Option (X × St) :=
 Option.rec (motive := fun _ => Option (X × St)) none (fun s' => some (.normal, s')) (Bool.rec (motive := fun _ => Option St) (doOpsG P K call ops ops.toList s) (drawnG P K call ops s) d)
noncomputable def condG (A : Fr) (x : Operand) (a b : Option (X × St)) : Option (X × St) := match gA A x with
 | some (.v (.one (.b true))) => a
 | some (.v (.one (.b false))) => b
 | _ => none
noncomputable def evG : Nat → EvT := fun n => Nat.rec (motive := fun _ => EvT) (fun _ _ _ _ => none) (fun n ih f p c s => match c with
  | .skip => some (.normal, s)
  | .label _ => some (.normal, s)
  | .region _ ops d => regionG P K (callG P K ih) ops d s
  | .seq a b => thenG (ih f (false :: p) a s) (ih f (true :: p) b)
  | .cond x a b => condG s.A x (ih f (false :: p) a s) (ih f (true :: p) b s)
  | .block id b => match K.lo f p s with
    | some r => some r
    | none => blockG id (ih f (false :: p) b s)
  | .loop b => thenG (ih f (false :: p) b s) (ih f p (.loop b))
  | .exit id => some (.exit id, s)
  | .ret => some (.ret, s)
  | _ => none) n
theorem evG_eq : ∀ (n f : Nat) (p : List Bool) (c : Code) (s : St), evG P K n f p c s = evCode P K n f p c s
 | 0, _, _, _, _ => rfl
 | n + 1, f, p, c, s => by
  have ih := evG_eq n
  have hc : callG P K (evG P K n) = callA P K (evCode P K n) := callG_eq P K _ _ ih
  unfold evCode
  cases c <;> try rfl
  case region id ops d =>
   show regionG P K (callG P K (evG P K n)) ops d s = _
   rw [hc]
   cases d with
   | false =>
    show Option.rec (motive := fun _ => Option (X × St)) none (fun s' => some (.normal, s')) (doOpsG P K _ ops ops.toList s) = _
    rw [doOpsG_eq]
    simp only
    cases doOps P K (callA P K (evCode P K n)) ops ops.toList s <;> rfl
   | true =>
    show Option.rec (motive := fun _ => Option (X × St)) none (fun s' => some (.normal, s')) (drawnG P K _ ops s) = _
    rw [drawnG_eq]
    simp only
    cases doDrawn P K (callA P K (evCode P K n)) ops s <;> rfl
  case seq a b =>
   show thenG (evG P K n f (false :: p) a s) (evG P K n f (true :: p) b) = _
   rw [thenG_eq, ih]
   simp only [ih]
   rfl
  case cond x a b =>
   show condG s.A x (evG P K n f (false :: p) a s) (evG P K n f (true :: p) b s) = _
   unfold condG
   rw [gA_eq, ih, ih]
   rfl
  case block id b =>
   show (match K.lo f p s with | some r => some r | none => blockG id (evG P K n f (false :: p) b s)) = _
   rw [blockG_eq, ih]
   rfl
  case loop b =>
   show thenG (evG P K n f (false :: p) b s) (evG P K n f p (.loop b)) = _
   rw [thenG_eq, ih]
   simp only [ih]
   rfl
end
end Go.Ev
namespace Go.Ev
open Go Go.RowKit
/-- All that there is stays. -/
def Base.all (w : World) : Base := ⟨w, fun b => b < w.heap.size, fun _ h => h⟩
theorem Kept.refl (z : Base) : Kept z z.w := ⟨rfl, rfl, rfl, Nat.le_refl _, fun _ _ => rfl⟩
theorem Kept.then {z : Base} {w w' : World} (h : Kept z w) (k : Kept (Base.all w) w') : Kept z w' := ⟨k.os.trans h.os, k.tape.trans h.tape, k.output.trans h.output, Nat.le_trans h.size k.size, fun b hb => (k.block b (Nat.lt_of_lt_of_le (z.lt b hb) h.size)).trans (h.block b hb)⟩
section
variable (P : Program)
/-- Nothing is appended. -/
def evAppend0 (t u : TypeId) (s x : AV) : Option (AV × List U) :=
 if t = u then
 match elemT P t with
 | none => none
 | some e => match sizeT P e, lenIn x, s with
  | some _, some 0, .v (.one .nils) => some (s, [])
  | some _, some 0, .v (.one (.sl ..)) => some (s, [])
  | _, _, _ => none
 else none
/-- A slice's cells are made zero. -/
def evClearS (h : Hp) (t : TypeId) (x : AV) : Option (List U) :=
 match P.underlying t, x with
 | some (.slice e), .v (.one (.sl k o n c)) => match zeroT P e, h.get k with
   | some (.one z), some q => if 0 < n then match (rowOf q).bind fun l => over l o (List.replicate n z) with
      | some l' => (reRow q l').map fun q' => [.put k q']
      | none => none
     else none
   | _, _ => none
 | some (.slice e), y => if lenIn y = some 0 then some [] else none
 | _, _ => none
/-- A slice that is cut behind its length, within what its block is known to hold. -/
def evSliceM (h : Hp) (t : TypeId) (x : AV) (lo : Option AV) (hi : AV) : Option (AV × List U) :=
 match P.underlying t, x with
 | some (.slice e), .v (.one (.sl k o n (.un j))) => match sizeT P e, bnd 0 lo, bnd 0 (some hi), h.get k with
   | some z, some a, some b, some (.row _ z' l) => if z' = z ∧ 0 < z ∧ a < b ∧ (b + j) * z ≤ l.length then some (.v (.one (.sl k (o + a * z) (b - a) (.un (j + a)))), []) else none
   | _, _, _, _ => none
 | _, _ => none
def ruX (A : Fr) (h : Hp) (o : Oper) : Option (AV × List U) := match o.op with
 | .call c => match c.callee, allSome (evA A) c.args.toList, c.argTypes.toList with
   | .builtin .append, some [s, x], [t, u] => evAppend0 P t u s x
   | .builtin .clear, some [x], t :: _ => (evClearS P h t x).map fun us => (.tup [], us)
   | _, _, _ => none
 | .slice t x lo (some hi) none => match evA A x, lo.map (evA A), evA A hi with
   | some v, some none, _ => none
   | some v, a, some b => evSliceM P h t v a.join b
   | _, _, _ => none
 | _ => none
end
variable [Sy]
section
variable {E : List Ent} {A : Fr} {n : Nat} {a : Act} {P : Program} {w0 : Base} {w : World} {h : Hp}
theorem len0 {x : AV} {v : Value} (hv : VV E x v) (h : lenIn x = some 0) : ∃ b c, v = .slice b 0 c := by
 unfold lenIn at h
 split at h
 · exact ⟨none, 0, hv⟩
 · cases h
   obtain ⟨b, c', hk, e1, _⟩ := hv
   exact ⟨_, _, e1⟩
 · obtain ⟨b, c', hk, e1⟩ := hv
   exact ⟨_, _, e1⟩
 · cases h
theorem run_append_none {t ty e : TypeId} {z : Nat} (ht : P.underlying t = some (.slice e)) (hz : sizeT P e = some z) {base xb : Option Addr} {n cap c : Nat} (hn : n ≤ cap) : (Builtin.append_ #[t, t] ty #[.slice base n cap, .slice xb 0 c]).run P w = .ok (.slice base n cap) w := by
 obtain ⟨i, hi, rfl⟩ : ∃ i, P.info? e = some i ∧ i.size = z := by
  unfold sizeT at hz
  cases hi : P.info? e with
  | none => simp [hi] at hz
  | some i => exact ⟨i, rfl, by simpa [hi] using hz⟩
 have h0 : ∀ a : Addr, (loadCells a 0).run P w = .ok #[] w := fun a => run_loadCells_list (P := P) w a [] (fun j v hj => by simp at hj)
 cases xb <;> cases base <;> simp [Builtin.append_, run_underlying ht, sizeOf, typeInfo, hi, Builtin.lenOf, hn, Builtin.firstCells, h0, storeCells]
theorem turns_append0 (ha : AR E A n a) (hr : Rep w0 E h w) {o : Oper} {c : Call} {x y r : AV} {t u : TypeId} {us : List U} (ho : o.op = .call c) (hc : c.callee = .builtin .append) (hx : allSome (evA A) c.args.toList = some [x, y]) (ht : c.argTypes.toList = [t, u])
  (he : evAppend0 P t u x y = some (r, us)) : Turns P w0 E a w o r (apU h us) := by
 obtain ⟨v, vx, hv, hvx, heq⟩ := args2 ha hx
 have hts : c.argTypes = #[t, u] := by
  apply Array.toList_inj.1
  simpa using ht
 unfold evAppend0 at he
 split at he
 · rename_i htu
   subst htu
   split at he
   · cases he
   · rename_i e hel
     have hu := elem_ok hel
     split at he
     · rename_i z hz hl
       cases he
       obtain ⟨xb, cx, rfl⟩ := len0 hvx hl
       have hv' : v = .slice none 0 0 := hv
       subst hv'
       refine ⟨E, w, _, Pre.refl E, hr, hv, .inl ?_⟩
       have := run_append_none (P := P) (w := w) (ty := o.type) hu hz (base := none) (xb := xb) (n := 0) (cap := 0) (c := cx) (Nat.le_refl _)
       simp [execOp, ho, resolve, hc, heq, invoke, builtin, hts, this]
     · rename_i z k q m cc hz hl
       cases he
       obtain ⟨xb, cx, rfl⟩ := len0 hvx hl
       obtain ⟨b, c', hk, e1, e2⟩ := hv
       refine ⟨E, w, v, Pre.refl E, hr, ⟨b, c', hk, e1, e2⟩, .inl ?_⟩
       subst e1
       have := run_append_none (P := P) (w := w) (ty := o.type) hu hz (base := some ⟨b, q, none⟩) (xb := xb) (n := m) (cap := capOf c' cc) (c := cx) e2
       simp [execOp, ho, resolve, hc, heq, invoke, builtin, hts, this]
     · cases he
 · cases he
theorem zeros_eq (z : Value) (hz : z.oneCell' = true) (n : Nat) : (Builtin.zeroCells z.cells n).toList = List.replicate n z := by
 have hc : z.cells = #[z] := by cases z <;> first | rfl | cases hz
 rw [hc]
 simp [Builtin.zeroCells]
 apply List.ext_getElem
 · simp
 · intro i h1 h2
   simp [Nat.mod_one]
theorem turns_clearS (ha : AR E A n a) (hr : Rep w0 E h w) {o : Oper} {c : Call} {x : AV} {t : TypeId} {tl : List TypeId} {us : List U} (ho : o.op = .call c) (hc : c.callee = .builtin .clear) (hx : allSome (evA A) c.args.toList = some [x]) (ht : c.argTypes.toList = t :: tl)
  (he : evClearS P h t x = some us) : Turns P w0 E a w o (.tup []) (apU h us) := by
 obtain ⟨v, hv, heq⟩ := args1 ha hx
 have h0 := ty0 ht
 unfold evClearS at he
 split at he
 · rename_i e k q m cc hu
   obtain ⟨b, c', hk, e1, e2⟩ := hv
   subst e1
   split at he
   · rename_i z ob hz hg
     split at he
     · rename_i hm
       cases hl : rowOf ob with
       | none => simp [hl] at he
       | some l =>
        simp only [hl, Option.bind_some] at he
        split at he
        · rename_i l' hov
          cases hre : reRow ob l' with
          | none => simp [hre] at he
          | some q' =>
           simp only [hre, Option.map_some, Option.some.injEq] at he
           subst he
           obtain ⟨zv, hzv, hzr⟩ := zero_ok (E := E) hz
           have hone : zv.oneCell' = true := V1.oneCell _ _ hzv
           obtain ⟨g1, g2⟩ := eff_write (P := P) (us := List.replicate m zv) hr hk hg hl hov hre (All2.replicate (show V1 E z zv from hzv) m)
           refine ⟨E, _, .tuple #[], Pre.refl E, g2, ⟨[], trivial, rfl⟩, .inl ?_⟩
           obtain ⟨m', rfl⟩ : ∃ m', m = m' + 1 := ⟨m - 1, by omega⟩
           simp [execOp, ho, resolve, hc, heq, invoke, builtin, Builtin.clear_, h0, run_underlying hu, hzr, zeros_eq zv hone, g1]
        · cases he
     · cases he
   · cases he
 · rename_i e y hu hne
   split at he
   · rename_i hl
     cases he
     obtain ⟨xb, cx, rfl⟩ := len0 hv hl
     refine ⟨E, w, .tuple #[], Pre.refl E, hr, ⟨[], trivial, rfl⟩, .inl ?_⟩
     cases xb <;> simp [execOp, ho, resolve, hc, heq, invoke, builtin, Builtin.clear_, h0, run_underlying hu]
   · cases he
 · cases he
theorem turns_sliceM (ha : AR E A n a) (hr : Rep w0 E h w) {o : Oper} {t : TypeId} {x : Operand} {lo : Option Operand} {hi : Operand} {p q r : AV} {us : List U} (ho : o.op = .slice t x lo (some hi) none) (hx : evA A x = some p) (hlo : lo.map (evA A) ≠ some none) (hhi : evA A hi = some q)
  (he : evSliceM P h t p (lo.map (evA A)).join q = some (r, us)) : Turns P w0 E a w o r (apU h us) := by
 have h1 := evA_ok ha x p hx
 have o1 := opt_ok ha hlo
 have o2 : OptOk E (some q) ((some hi).map a.eval) := .inr ⟨q, a.eval hi, rfl, rfl, evA_ok ha hi q hhi⟩
 generalize (lo.map (evA A)).join = lo' at he o1
 unfold evSliceM at he
 split at he
 · rename_i e k f m j hu
   obtain ⟨b, c, hk, hv, hle⟩ := h1
   split at he
   · rename_i z i i2 t' z' l hz hi1 hi2 hg
     split at he
     · rename_i hc
       obtain ⟨rfl, hz0, hab, hbl⟩ := hc
       cases he
       have hrow : Is E c w.heap[b]? (.row t' z' l) := (hr.obj k _ (lt_of_get hr hk) hg).is hk
       obtain ⟨cs, fr, g1, g2, g3, g4, g5⟩ := hrow
       have hlen := g5.length
       rw [List.length_take] at hlen
       have h6 : cs.toList.length = cs.size := Array.length_toList
       have hcap : i2 + j ≤ c := by
        have h3 : (i2 + j) * z' ≤ c * z' := by omega
        exact Nat.le_of_mul_le_mul_right h3 hz0
       have b1 := bnd_ok hi1 o1
       have b2 := bnd_ok hi2 o2
       have b3 : (((some hi).map a.eval) = none ∧ i2 = m) ∨ ∃ k, (some hi).map a.eval = some (.int k (i2 : Nat)) := by
        rcases b2 with ⟨e1, _⟩ | e1
        · cases e1
        · exact .inr e1
       have hr1 := run_bounds (P := P) (f := true) (cap := c - j) b1 b3 (by omega) (by omega) w
       have hne : ¬ (c - j = i) := by omega
       refine ⟨E, w, .slice (some ⟨b, f + i * z', none⟩) (i2 - i) (c - j - i), Pre.refl E, hr, ⟨b, c, hk, by simp only [capOf]; congr 1; omega, by simp only [capOf]; omega⟩, .inl ?_⟩
       have hr2 : (Instr.sliceBounds true m (c - j) (lo.map a.eval) (some (a.eval hi)) none).run P w = .ok (i, i2, c - j) w := hr1
       simp only [execOp, ho, hv, capOf, Instr.sliceAt, Instr.slice, Sem.run_bind, run_underlying hu, Result.andThen_ok, Option.map_some, Option.map_none, hr2, Sem.run_pure, run_size hz, if_neg hne, Addr.add_lit]
     · cases he
   · cases he
 · cases he
theorem ruX_ok : RuOk P w0 (ruX P) := by
 intro A n h o v us hx E a w ha hr
 unfold ruX at hx
 split at hx
 · rename_i c ho
   split at hx
   · rename_i s x t u hc hxs hts
     exact turns_append0 ha hr ho hc hxs hts hx
   · rename_i x t tl hc hxs hts
     cases hs : evClearS P h t x with
     | none => simp [hs] at hx
     | some us' =>
      simp only [hs, Option.map_some, Option.some.injEq, Prod.mk.injEq] at hx
      obtain ⟨rfl, rfl⟩ := hx
      exact turns_clearS ha hr ho hc hxs hts hs
   · cases hx
 · rename_i t x lo hi ho
   split at hx
   · cases hx
   · rename_i b h1 h2 h3 hne
     exact turns_sliceM ha hr ho h2 hne h3 hx
   · cases hx
 · cases hx
end
end Go.Ev
namespace Go.Ev
open Go Go.RowKit
section
variable {α β : Type}
def Tr.map (f : α → β) : Tr α → Tr β
 | .lf o => .lf (o.map f)
 | .nd l r => .nd (Tr.map f l) (Tr.map f r)
theorem Tr.get_map (f : α → β) : ∀ (d : Nat) (t : Tr α) (k : Nat), Tr.get d (Tr.map f t) k = (Tr.get d t k).map f
 | 0, .lf _, _ => rfl
 | 0, .nd _ _, _ => rfl
 | d + 1, .lf _, _ => rfl
 | d + 1, .nd l r, k => by
  show Tr.get (d + 1) (.nd (Tr.map f l) (Tr.map f r)) k = _
  rw [Tr.get_nd, Tr.get_nd, Tr.get_map f d l, Tr.get_map f d r]
  cases Nat.beq (k % 2) 0 <;> rfl
theorem Tr.map_set (f : α → β) : ∀ (d : Nat) (t : Tr α) (k : Nat) (o : Option α), Tr.map f (Tr.set d t k o) = Tr.set d (Tr.map f t) k (o.map f)
 | 0, _, _, _ => rfl
 | d + 1, .nd l r, k, o => by
  show _ = Tr.set (d + 1) (.nd (Tr.map f l) (Tr.map f r)) k (o.map f)
  rw [Tr.set_nd, Tr.set_nd]
  cases Nat.beq (k % 2) 0
  · show Tr.nd (Tr.map f l) (Tr.map f (Tr.set d r (k / 2) o)) = Tr.nd (Tr.map f l) (Tr.set d (Tr.map f r) (k / 2) (o.map f))
    rw [Tr.map_set f d]
  · show Tr.nd (Tr.map f (Tr.set d l (k / 2) o)) (Tr.map f r) = Tr.nd (Tr.set d (Tr.map f l) (k / 2) (o.map f)) (Tr.map f r)
    rw [Tr.map_set f d]
 | d + 1, .lf x, k, o => by
  show _ = Tr.set (d + 1) (.lf (x.map f)) k (o.map f)
  rw [Tr.set_lf, Tr.set_lf]
  cases Nat.beq (k % 2) 0
  · show Tr.nd (.lf none) (Tr.map f (Tr.set d (.lf none) (k / 2) o)) = _
    rw [Tr.map_set f d]
    rfl
  · show Tr.nd (Tr.map f (Tr.set d (.lf none) (k / 2) o)) (.lf none) = _
    rw [Tr.map_set f d]
    rfl
end
variable [Sy]
theorem den_den (x : A1) : x.den.den = x.den := by
 cases x with
 | y i =>
  show (Sy.v i).den = Sy.v i
  have := Sy.vb i
  cases h : Sy.v i <;> first | rfl | exact absurd h (this _)
 | _ => rfl
theorem oden_den (x : AO) : x.den.den = x.den := by
 cases x with
 | y i =>
  show (Sy.o i).den = Sy.o i
  have := Sy.ob i
  cases h : Sy.o i <;> first | rfl | exact absurd h (this _)
 | _ => rfl
def den2 : A2 → A2
 | .one x => .one x.den
 | .agg l => .agg (l.map A1.den)
def denV : AV → AV
 | .v x => .v (den2 x)
 | .tup l => .tup (l.map den2)
theorem All2.map_left {α β γ : Type} {R : α → β → Prop} {S : γ → β → Prop} {f : γ → α} (h : ∀ a b, S a b ↔ R (f a) b) : ∀ (l : List γ) (m : List β), All2 S l m ↔ All2 R (l.map f) m
 | [], [] => Iff.rfl
 | [], _ :: _ => Iff.rfl
 | _ :: _, [] => Iff.rfl
 | a :: l, b :: m => by
  show (S a b ∧ All2 S l m) ↔ (R (f a) b ∧ All2 R (l.map f) m)
  rw [h a b, All2.map_left h l m]
theorem V1_den (E : List Ent) (x : A1) (v : Value) : V1 E x v ↔ V1 E x.den v := by
 unfold V1
 rw [den_den]
theorem V2_den (E : List Ent) (x : A2) (v : Value) : V2 E x v ↔ V2 E (den2 x) v := by
 cases x with
 | one x => exact V1_den E x v
 | agg l =>
  show (∃ cs : List Value, All2 (V1 E) l cs ∧ v = .agg cs.toArray) ↔ (∃ cs : List Value, All2 (V1 E) (l.map A1.den) cs ∧ v = .agg cs.toArray)
  exact ⟨fun ⟨cs, h1, h2⟩ => ⟨cs, (All2.map_left (V1_den E) l cs).1 h1, h2⟩, fun ⟨cs, h1, h2⟩ => ⟨cs, (All2.map_left (V1_den E) l cs).2 h1, h2⟩⟩
theorem VV_den (E : List Ent) (x : AV) (v : Value) : VV E x v ↔ VV E (denV x) v := by
 cases x with
 | v x => exact V2_den E x v
 | tup l =>
  show (∃ vs : List Value, All2 (V2 E) l vs ∧ v = .tuple vs.toArray) ↔ (∃ vs : List Value, All2 (V2 E) (l.map den2) vs ∧ v = .tuple vs.toArray)
  exact ⟨fun ⟨cs, h1, h2⟩ => ⟨cs, (All2.map_left (V2_den E) l cs).1 h1, h2⟩, fun ⟨cs, h1, h2⟩ => ⟨cs, (All2.map_left (V2_den E) l cs).2 h1, h2⟩⟩
def denF (A : Fr) : Fr := Tr.map denV A
def denH (h : Hp) : Hp := ⟨Tr.map AO.den h.t, h.n⟩
theorem get_denH (h : Hp) (k : Nat) : (denH h).get k = (h.get k).map AO.den := Tr.get_map _ _ _ _
def denU : U → U
 | .put k o => .put k o.den
 | .new o => .new o.den
 | .del k => .del k
theorem apU_den : ∀ (us : List U) (h : Hp), denH (apU h us) = apU (denH h) (us.map denU)
 | [], _ => rfl
 | .put k o :: r, h => by
  show denH (apU (h.put k o) r) = apU ((denH h).put k o.den) (r.map denU)
  rw [apU_den r]
  congr 1
  show Hp.mk (Tr.map AO.den (Tr.set D h.t k (some o))) h.n = Hp.mk (Tr.set D (Tr.map AO.den h.t) k (some o.den)) h.n
  rw [Tr.map_set]
  rfl
 | .new o :: r, h => by
  show denH (apU (h.new o) r) = apU ((denH h).new o.den) (r.map denU)
  rw [apU_den r]
  congr 1
  show Hp.mk (Tr.map AO.den (Tr.set D h.t h.n (some o))) (h.n + 1) = Hp.mk (Tr.set D (Tr.map AO.den h.t) h.n (some o.den)) (h.n + 1)
  rw [Tr.map_set]
  rfl
 | .del k :: r, h => by
  show denH (apU (h.del k) r) = apU ((denH h).del k) (r.map denU)
  rw [apU_den r]
  congr 1
  show Hp.mk (Tr.map AO.den (Tr.set D h.t k none)) h.n = Hp.mk (Tr.set D (Tr.map AO.den h.t) k none) h.n
  rw [Tr.map_set]
  rfl
section
variable {E : List Ent} {A : Fr} {n : Nat} {a : Act} {P : Program} {w0 : Base} {w : World} {h : Hp}
theorem AR.den (ha : AR E A n a) : AR E (denF A) n a := ⟨ha.size, ha.le, ha.defers, fun t x ht hx => by
 have hx' : Tr.get DT (Tr.map denV A) t = some x := hx
 rw [Tr.get_map] at hx'
 cases hg : Tr.get DT A t with
 | none => simp [hg] at hx'
 | some z =>
  simp only [hg, Option.map_some, Option.some.injEq] at hx'
  subst hx'
  obtain ⟨v, h1, h2⟩ := ha.get t z ht hg
  exact ⟨v, h1, (VV_den E z v).1 h2⟩⟩
theorem OK_den {k : Nat} {o : AO} (hk : OK E w k o) (ho : ∀ f l, o.den = .clo f l → o = .clo f l) (ho2 : ∀ t x, o.den = .ifc t x → o = .ifc t x) : OK E w k o.den := by
 cases o with
 | y i =>
  obtain ⟨b, c, h1, h2⟩ := hk
  have h2' : Is0 E c w.heap[b]? (Sy.o i) := h2
  refine OK.of_is (b := b) (c := c) h1 ?_
  show Is0 E c w.heap[b]? ((Sy.o i).den)
  have hb : (Sy.o i).den = Sy.o i := oden_den (.y i)
  rw [hb]
  exact h2'
 | _ => exact hk
theorem Rep.den (hr : Rep w0 E h w) : Rep w0 E (denH h) w where
 below := hr.below
 len := hr.len
 bound := hr.bound
 obj := fun k o hk ho => by
  rw [get_denH] at ho
  cases hg : h.get k with
  | none => simp [hg] at ho
  | some q =>
   simp only [hg, Option.map_some, Option.some.injEq] at ho
   subst ho
   have h1 := hr.obj k q hk hg
   cases q with
   | y i =>
    obtain ⟨b, c, h1, h2⟩ := h1
    have h2' : Is0 E c w.heap[b]? (Sy.o i) := h2
    refine OK.of_is (b := b) (c := c) h1 ?_
    show Is0 E c w.heap[b]? ((Sy.o i).den)
    rw [show (Sy.o i).den = Sy.o i from oden_den (.y i)]
    exact h2'
   | _ => exact h1
 free := fun k hk hd => by
  rw [get_denH, hr.free k hk hd]
  rfl
 sep := fun k k' o o' b c c' hk hk' ho ho' h1 h2 => by
  rw [get_denH] at ho ho'
  cases hg : h.get k with
  | none => simp [hg] at ho
  | some q =>
   cases hg' : h.get k' with
   | none => simp [hg'] at ho'
   | some q' => exact hr.sep k k' q q' b c c' hk hk' hg hg' h1 h2
 old := fun k o b c hk ho he => by
  rw [get_denH] at ho
  cases hg : h.get k with
  | none => simp [hg] at ho
  | some q => exact hr.old k q b c hk hg he
/-- And back, where the letters are put back. -/
theorem Rep.undenH (hr : Rep w0 E (denH h) w) : Rep w0 E h w where
 below := hr.below
 len := hr.len
 bound := hr.bound
 obj := fun k o hk ho => by
  have h1 := hr.obj k o.den hk (by rw [get_denH, ho]; rfl)
  cases o with
  | y i =>
   have g1 := Sy.oc i
   have g2 := Sy.oi i
   have h1' : OK E w k (Sy.o i) := h1
   have hd : (Sy.o i).den = Sy.o i := oden_den (.y i)
   cases hs : Sy.o i with
   | clo f l => exact absurd hs (g1 f l)
   | ifc t x => exact absurd hs (g2 t x)
   | y j => exact absurd hs (Sy.ob i j)
   | _ =>
    rw [hs] at h1'
    obtain ⟨b, c, h2, h3⟩ := h1'
    refine ⟨b, c, h2, ?_⟩
    show Is0 E c w.heap[b]? (Sy.o i)
    rw [hs]
    exact h3
  | _ => exact h1
 free := fun k hk hd => by
  have := hr.free k hk hd
  rw [get_denH] at this
  cases hg : h.get k with
  | none => rfl
  | some q => simp [hg] at this
 sep := fun k k' o o' b c c' hk hk' ho ho' h1 h2 => hr.sep k k' o.den o'.den b c c' hk hk' (by rw [get_denH, ho]; rfl) (by rw [get_denH, ho']; rfl) h1 h2
 old := fun k o b c hk ho he => hr.old k o.den b c hk (by rw [get_denH, ho]; rfl) he
theorem gives_den {o : Oper} {r : AV} (ha : AR E A n a) (h : evPure P (denF A) o = some (denV r)) : Gives P E a o r := by
 obtain ⟨v, h1, h2⟩ := evPure_ok ha.den h
 exact ⟨v, (VV_den E r v).2 h1, h2⟩
theorem turns_pure {o : Oper} {r : AV} (ha : AR E A n a) (hr : Rep w0 E h w) (hp : evPure P (denF A) o = some (denV r)) : Turns P w0 E a w o r (apU h []) := by
 obtain ⟨v, h1, h2⟩ := gives_den ha hp
 exact ⟨E, w, v, Pre.refl E, hr, h1, .inl (h2 w)⟩
theorem turns_read {o : Oper} {r : AV} (ha : AR E A n a) (hr : Rep w0 E h w) (hp : evRead P (denF A) (denH h) o = some (denV r)) : Turns P w0 E a w o r (apU h []) := by
 obtain ⟨v, h1, h2⟩ := evRead_ok ha.den hr.den hp
 exact ⟨E, w, v, Pre.refl E, hr, (VV_den E r v).2 h1, .inl h2⟩
theorem turns_eff {o : Oper} {r : AV} {us : List U} (ha : AR E A n a) (hr : Rep w0 E h w) (hp : evEff P (denF A) (denH h) o = some (denV r, us.map denU)) : Turns P w0 E a w o r (apU h us) := by
 obtain ⟨E', w', v, h1, h2, h3, h4⟩ := evEff_ok ha.den hr.den hp
 refine ⟨E', w', v, h1, Rep.undenH ?_, (VV_den E' r v).2 h3, h4⟩
 rw [apU_den]
 exact h2
end
end Go.Ev
