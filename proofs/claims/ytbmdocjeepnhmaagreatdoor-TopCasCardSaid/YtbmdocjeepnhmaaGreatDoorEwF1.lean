/- A faster reckoner, the same by proof: trees, forced values. -/
import Derived.Test.YtbmdocjeepnhmaaGreatDoorEw14
set_option linter.unusedVariables false
set_option linter.unusedSimpArgs false
set_option linter.unusedSectionVars false
namespace Go.Ev
open Go Go.RowKit
section
variable {α β : Type}
noncomputable def gT : Nat → Tr α → Nat → Option α := fun d => Nat.rec (motive := fun _ => Tr α → Nat → Option α) (fun t _ => Tr.rec (motive := fun _ => Option α) (fun o => o) (fun _ _ _ _ => none) t) (fun _ ih t k => Tr.rec (motive := fun _ => Option α) (fun _ => none) (fun l r _ _ => Bool.rec (motive := fun _ => Option α) (ih r (Nat.div k 2)) (ih l (Nat.div k 2)) (Nat.beq (Nat.mod k 2) 0)) t) d
noncomputable def sT : Nat → Tr α → Nat → Option α → (Tr α → β) → β := fun d => Nat.rec (motive := fun _ => Tr α → Nat → Option α → (Tr α → β) → β) (fun _ _ o c => c (.lf o)) (fun _ ih t k o c => Tr.rec (motive := fun _ => β) (fun _ => Bool.rec (motive := fun _ => β) (ih (.lf none) (Nat.div k 2) o fun r => c (.nd (.lf none) r)) (ih (.lf none) (Nat.div k 2) o fun l => c (.nd l (.lf none))) (Nat.beq (Nat.mod k 2) 0)) (fun l r _ _ => Bool.rec (motive := fun _ => β) (ih r (Nat.div k 2) o fun r => c (.nd l r)) (ih l (Nat.div k 2) o fun l => c (.nd l r)) (Nat.beq (Nat.mod k 2) 0)) t) d
theorem gT_eq : ∀ (d : Nat) (t : Tr α) (k : Nat), gT d t k = Tr.get d t k
 | 0, .lf _, _ => rfl
 | 0, .nd _ _, _ => rfl
 | d + 1, .lf _, _ => rfl
 | d + 1, .nd l r, k => by
  rw [Tr.get_nd, ← gT_eq d l, ← gT_eq d r]
  show (Bool.rec (motive := fun _ => Option α) (gT d r (k / 2)) (gT d l (k / 2)) (Nat.beq (k % 2) 0)) = _
  cases Nat.beq (k % 2) 0 <;> rfl
theorem sT_eq : ∀ (d : Nat) (t : Tr α) (k : Nat) (o : Option α) (c : Tr α → β), sT d t k o c = c (Tr.set d t k o)
 | 0, _, _, _, _ => rfl
 | d + 1, .nd l r, k, o, c => by
  rw [Tr.set_nd]
  show (Bool.rec (motive := fun _ => β) (sT d r (k / 2) o fun r => c (.nd l r)) (sT d l (k / 2) o fun l => c (.nd l r)) (Nat.beq (k % 2) 0)) = _
  rw [sT_eq d, sT_eq d]
  cases Nat.beq (k % 2) 0 <;> rfl
 | d + 1, .lf x, k, o, c => by
  rw [Tr.set_lf]
  show (Bool.rec (motive := fun _ => β) (sT d (.lf none) (k / 2) o fun r => c (.nd (.lf none) r)) (sT d (.lf none) (k / 2) o fun l => c (.nd l (.lf none))) (Nat.beq (k % 2) 0)) = _
  rw [sT_eq d, sT_eq d]
  cases Nat.beq (k % 2) 0 <;> rfl
/-- Lists, item by item. -/
noncomputable def gL (f : α → (α → β) → β) (l : List α) : (List α → β) → β := List.rec (motive := fun _ => (List α → β) → β) (fun k => k []) (fun a _ ih k => f a fun a => ih fun l => k (a :: l)) l
theorem gL_eq {f : α → (α → β) → β} (hf : ∀ a k, f a k = k a) : ∀ (l : List α) (k : List α → β), gL f l k = k l
 | [], _ => rfl
 | a :: l, k => by
  show f a (fun a => gL f l fun l => k (a :: l)) = _
  rw [hf, gL_eq hf l]
noncomputable def gN (n : Nat) (k : Nat → β) : β := Nat.rec (motive := fun _ => β) (k 0) (fun m _ => k (Nat.succ m)) n
theorem gN_eq (n : Nat) (k : Nat → β) : gN n k = k n := by cases n <;> rfl
noncomputable def gI (n : Int) (k : Int → β) : β := Int.rec (motive := fun _ => β) (fun m => gN m fun m => k (.ofNat m)) (fun m => gN m fun m => k (.negSucc m)) n
theorem gI_eq (n : Int) (k : Int → β) : gI n k = k n := by cases n <;> simp only [gI, gN_eq]
noncomputable def gC (c : CapE) (k : CapE → β) : β := CapE.rec (motive := fun _ => β) (fun n => gN n fun n => k (.ex n)) (fun n => gN n fun n => k (.un n)) c
theorem gC_eq (c : CapE) (k : CapE → β) : gC c k = k c := by cases c <;> simp only [gC, gN_eq]
noncomputable def g1 (x : A1) (k : A1 → β) : β := A1.rec (motive := fun _ => β) (fun x => fB x fun x => k (.b x)) (fun q n => fK q fun q => gI n fun n => k (.i q n)) (fun l => gL gN l fun l => k (.s l)) (k .nilp) (fun a o => gN a fun a => gN o fun o => k (.p a o)) (k .nils)
 (fun a o n c => gN a fun a => gN o fun o => gN n fun n => gC c fun c => k (.sl a o n c)) (fun a o z b j => gN a fun a => gN o fun o => gN z fun z => gN b fun b => gN j fun j => k (.stl a o z b j)) (k .nilm) (fun a => gN a fun a => k (.m a)) (k .nili) (k .nilf) (fun a => gN a fun a => k (.f a)) (fun a => gN a fun a => k (.clo a)) (fun t a => gN t fun t => gN a fun a => k (.ifc t a)) (fun a => gN a fun a => k (.y a)) (fun a => gN a fun a => k (.c a)) x
theorem g1_eq (x : A1) (k : A1 → β) : g1 x k = k x := by
 cases x <;> simp only [g1, fB_eq, fK_eq, gI_eq, gN_eq, gC_eq]
 rw [gL_eq gN_eq]
noncomputable def g2 (x : A2) (k : A2 → β) : β := A2.rec (motive := fun _ => β) (fun x => g1 x fun x => k (.one x)) (fun l => gL g1 l fun l => k (.agg l)) x
theorem g2_eq (x : A2) (k : A2 → β) : g2 x k = k x := by
 cases x <;> simp only [g2, g1_eq]
 rw [gL_eq g1_eq]
noncomputable def gV (x : AV) (k : AV → β) : β := AV.rec (motive := fun _ => β) (fun x => g2 x fun x => k (.v x)) (fun l => gL g2 l fun l => k (.tup l)) x
theorem gV_eq (x : AV) (k : AV → β) : gV x k = k x := by
 cases x <;> simp only [gV, g2_eq]
 rw [gL_eq g2_eq]
noncomputable def gE (e : A1 × A2 × Nat) (k : A1 × A2 × Nat → β) : β := Prod.rec (motive := fun _ => β) (fun a x => Prod.rec (motive := fun _ => β) (fun b c => g1 a fun a => g2 b fun b => gN c fun c => k (a, b, c)) x) e
theorem gE_eq (x : A1 × A2 × Nat) (k : A1 × A2 × Nat → β) : gE x k = k x := by
 obtain ⟨a, b, c⟩ := x
 simp only [gE, g1_eq, g2_eq, gN_eq]
noncomputable def gO (o : AO) (k : AO → β) : β := AO.rec (motive := fun _ => β) (fun t l => gN t fun t => gL g1 l fun l => k (.cells t l)) (fun t z l => gN t fun t => gN z fun z => gL g1 l fun l => k (.row t z l)) (fun es c => gL gE es fun es => gN c fun c => k (.map es c)) (fun a b l c => gN a fun a => gN b fun b => gL gN l fun l => gN c fun c => k (.iter a b l c))
 (fun s p => gL gN s fun s => gN p fun p => k (.siter s p)) (fun f l => gN f fun f => gL g2 l fun l => k (.clo f l)) (fun t x => gN t fun t => g2 x fun x => k (.ifc t x)) (fun a => gN a fun a => k (.y a)) (fun es => gL (fun (e : A1 × A2) k => g1 e.1 fun a => g2 e.2 fun b => k (a, b)) es fun es => k (.mapx es)) o
theorem gO_eq (x : AO) (k : AO → β) : gO x k = k x := by
 cases x <;> simp only [gO, gN_eq, g2_eq]
 · rw [gL_eq g1_eq]
 · rw [gL_eq g1_eq]
 · rw [gL_eq gE_eq]
 · rw [gL_eq gN_eq]
 · rw [gL_eq gN_eq]
 · rw [gL_eq g2_eq]
 · rw [gL_eq (fun (e : A1 × A2) k => by rw [g1_eq])]
noncomputable def gU (us : List U) : Tr AO → Nat → (Hp → β) → β := List.rec (motive := fun _ => Tr AO → Nat → (Hp → β) → β) (fun t n k => k ⟨t, n⟩)
 (fun u _ ih t n k => U.rec (motive := fun _ => β) (fun a o => gN a fun a => gO o fun o => sT D t a (some o) fun t => ih t n k) (fun o => gO o fun o => sT D t n (some o) fun t => ih t (Nat.succ n) k) (fun a => gN a fun a => sT D t a none fun t => ih t n k) u) us
theorem gU_eq : ∀ (us : List U) (t : Tr AO) (n : Nat) (k : Hp → β), gU us t n k = k (apU ⟨t, n⟩ us)
 | [], _, _, _ => rfl
 | .put a o :: r, t, n, k => by
  show (gN a fun a => gO o fun o => sT D t a (some o) fun t => gU r t n k) = _
  rw [gN_eq, gO_eq, sT_eq, gU_eq r]
  rfl
 | .new o :: r, t, n, k => by
  show (gO o fun o => sT D t n (some o) fun t => gU r t (Nat.succ n) k) = _
  rw [gO_eq, sT_eq, gU_eq r]
  rfl
 | .del a :: r, t, n, k => by
  show (gN a fun a => sT D t a none fun t => gU r t n k) = _
  rw [gN_eq, sT_eq, gU_eq r]
  rfl
/-- The first temporaries. -/
noncomputable def gArgs (l : List AV) : Nat → Fr → (Fr → β) → β := List.rec (motive := fun _ => Nat → Fr → (Fr → β) → β) (fun _ A k => k A) (fun v _ ih i A k => gV v fun v => sT DT A i (some v) fun A => ih (Nat.succ i) A k) l
theorem gArgs_eq : ∀ (l : List AV) (i : Nat) (A : Fr) (k : Fr → β), gArgs l i A k = k (setArgs l i A)
 | [], _, _, _ => rfl
 | v :: l, i, A, k => by
  show (gV v fun v => sT DT A i (some v) fun A => gArgs l (Nat.succ i) A k) = _
  rw [gV_eq, sT_eq, gArgs_eq l]
  rfl
noncomputable def gPut (A : Fr) (n : Nat) (t : Tr AO) (m : Nat) (d : Option Tmp) (v : AV) (us : List U) (k : St → Option β) : Option β :=
 Option.rec (motive := fun _ => Option β) (gU us t m fun h => k ⟨A, n, h⟩) (fun d => Bool.rec (motive := fun _ => Option β) none (gV v fun v => sT DT A d (some v) fun A => gU us t m fun h => k ⟨A, n, h⟩) (Nat.blt d n)) d
theorem gPut_eq (A : Fr) (n : Nat) (t : Tr AO) (m : Nat) (d : Option Tmp) (v : AV) (us : List U) (k : St → Option β) : gPut A n t m d v us k = putF ⟨A, n, ⟨t, m⟩⟩ d v us k := by
 cases d with
 | none => show (gU us t m fun h => k ⟨A, n, h⟩) = (fU ⟨t, m⟩ us fun h => k ⟨A, n, h⟩); rw [gU_eq, fU_eq]
 | some d =>
  show (Bool.rec (motive := fun _ => Option β) none (gV v fun v => sT DT A d (some v) fun A => gU us t m fun h => k ⟨A, n, h⟩) (Nat.blt d n)) = (bif Nat.blt d n then fV v fun v => fTr DT A d (some v) fun A => fU ⟨t, m⟩ us fun h => k ⟨A, n, h⟩ else none)
  rw [gV_eq, sT_eq, gU_eq, fV_eq, fTr_eq, fU_eq]
  cases Nat.blt d n <;> rfl
end
end Go.Ev
namespace Go.Ev
open Go Go.RowKit
inductive Out where
 | val (v : AV) (us : List U)
 | enter (f : Nat) (xs : List AV)
 | no
def ofV (x : Option AV) : Out := match x with | some v => .val v [] | none => .no
def ofE (x : Option (AV × List U)) : Out := match x with | some (v, us) => .val v us | none => .no
def ofC (x : Option (Nat × List AV)) : Out := match x with | some (f, xs) => .enter f xs | none => .no
section
variable (P : Program)
/-- What an operation does, as doOp asks for it. -/
def opS (A : Fr) (h : Hp) (o : Oper) : Out := match evPure P A o with
 | some v => .val v []
 | none => match evRead P A h o with
  | some v => .val v []
  | none => match evEff P A h o with
   | some (v, us) => .val v us
   | none => match evEnter A h o with
    | some (f, xs) => .enter f xs
    | none => .no
def constA (v : Value) : Option AV := match v with
 | .int k n => some (.v (.one (.i k n)))
 | .bool x => some (.v (.one (.b x)))
 | v => asAV v
theorem constA_eq (v : Value) : constA v = asAV v := by
 unfold constA
 split <;> rfl
noncomputable def gA (A : Fr) (x : Operand) : Option AV := Operand.rec (motive := fun _ => Option AV) (fun t => Bool.rec (motive := fun _ => Option AV) none (gT DT A t) (Nat.blt t 256)) (fun v => constA v) (fun _ => none) (fun f => some (.v (.one (.f f)))) x
theorem gA_eq (A : Fr) (x : Operand) : gA A x = evA A x := by
 cases x with
 | tmp t =>
  show (Bool.rec (motive := fun _ => Option AV) none (gT DT A t) (Nat.blt t 256)) = (bif Nat.blt t 256 then Tr.get DT A t else none)
  rw [gT_eq]
  cases Nat.blt t 256 <;> rfl
 | const v => exact constA_eq v
 | global g => rfl
 | func f => rfl
theorem gA_fun (A : Fr) : gA A = evA A := funext (gA_eq A)
/-! ### Two whole numbers -/
def bI (k : IntKind) (n : Int) : Option AV := some (.v (.one (.i k n)))
def bB (b : Bool) : Option AV := some (.v (.one (.b b)))
def iArith (k k' : IntKind) (r : Option AV) : Option AV := if k = k' then r else none
def iAdd (k k' : IntKind) (a c : Int) : Option AV := iArith k k' (bI k (k.wrap (a + c)))
def iSub (k k' : IntKind) (a c : Int) : Option AV := iArith k k' (bI k (k.wrap (a - c)))
def iMul (k k' : IntKind) (a c : Int) : Option AV := iArith k k' (bI k (k.wrap (a * c)))
def iQuo (k k' : IntKind) (a c : Int) : Option AV := iArith k k' (if c = 0 then none else bI k (k.wrap (a.tdiv c)))
def iRem (k k' : IntKind) (a c : Int) : Option AV := iArith k k' (if c = 0 then none else bI k (a.tmod c))
def iAnd (k k' : IntKind) (a c : Int) : Option AV := iArith k k' (bI k (bitsI (· &&& ·) k a c))
def iOr (k k' : IntKind) (a c : Int) : Option AV := iArith k k' (bI k (bitsI (· ||| ·) k a c))
def iXor (k k' : IntKind) (a c : Int) : Option AV := iArith k k' (bI k (bitsI (· ^^^ ·) k a c))
def iShl (k : IntKind) (a c : Int) : Option AV := if 0 ≤ c then bI k (k.wrap (a * 2 ^ (min c.toNat k.bits))) else none
def iShr (k : IntKind) (a c : Int) : Option AV := if 0 ≤ c then bI k (a.fdiv (2 ^ (min c.toNat k.bits))) else none
def iEql (k k' : IntKind) (a c : Int) : Option AV := iArith k k' (bB (a == c))
def iNeq (k k' : IntKind) (a c : Int) : Option AV := iArith k k' (bB (!(a == c)))
def iLss (k k' : IntKind) (a c : Int) : Option AV := iArith k k' (bB (decide (a < c)))
def iLeq (k k' : IntKind) (a c : Int) : Option AV := iArith k k' (bB (decide (a ≤ c)))
def iGtr (k k' : IntKind) (a c : Int) : Option AV := iArith k k' (bB (decide (a > c)))
def iGeq (k k' : IntKind) (a c : Int) : Option AV := iArith k k' (bB (decide (a ≥ c)))
def iOther (op : BinOp) (t : TypeId) (k k' : IntKind) (a c : Int) : Option AV := evBin P op t (.v (.one (.i k a))) (.v (.one (.i k' c)))
def binI (op : BinOp) (t : TypeId) (k k' : IntKind) (a c : Int) : Option AV := match op with
 | .add => iAdd k k' a c
 | .sub => iSub k k' a c
 | .mul => iMul k k' a c
 | .quo => iQuo k k' a c
 | .rem => iRem k k' a c
 | .and => iAnd k k' a c
 | .or => iOr k k' a c
 | .xor => iXor k k' a c
 | .shl => iShl k a c
 | .shr => iShr k a c
 | .eql => iEql k k' a c
 | .neq => iNeq k k' a c
 | .lss => iLss k k' a c
 | .leq => iLeq k k' a c
 | .gtr => iGtr k k' a c
 | .geq => iGeq k k' a c
 | op => iOther P op t k k' a c
theorem binI_eq (op : BinOp) (t : TypeId) (k k' : IntKind) (a c : Int) : binI P op t k k' a c = evBin P op t (.v (.one (.i k a))) (.v (.one (.i k' c))) := by
 cases op <;> try rfl
 all_goals
  simp only [binI, evBin, iAdd, iSub, iMul, iQuo, iRem, iAnd, iOr, iXor, iEql, iNeq, iLss, iLeq, iGtr, iGeq, iArith, bI, bB, cmpI, Option.map_some]
 all_goals (split <;> rfl)
/-- == and its like, as a binary operation has them. -/
def slowBin (op : BinOp) (t : TypeId) (x y : Operand) (a b : AV) : Option AV := match a, b with
 | .v (.one .nili), .v (.one .nili) => if Region.isConst x || Region.isConst y then match op, P.underlying t with
    | .eql, some (.interface _) => some (.v (.one (.b true)))
    | .neq, some (.interface _) => some (.v (.one (.b false)))
    | _, _ => none
   else none
 | _, _ => evBin P op t a b
noncomputable def bin1 (op : BinOp) (t : TypeId) (x y : Operand) (a b : AV) : Option AV :=
 AV.rec (motive := fun _ => Option AV) (fun a2 => A2.rec (motive := fun _ => Option AV) (fun a1 => A1.casesOn (motive := fun _ => Option AV) a1 (fun _ => slowBin P op t x y a b)
  (fun k n => AV.rec (motive := fun _ => Option AV) (fun b2 => A2.rec (motive := fun _ => Option AV) (fun b1 => A1.casesOn (motive := fun _ => Option AV) b1 (fun _ => slowBin P op t x y a b) (fun k' m => binI P op t k k' n m) (fun _ => slowBin P op t x y a b) (slowBin P op t x y a b) (fun _ _ => slowBin P op t x y a b) (slowBin P op t x y a b) (fun _ _ _ _ => slowBin P op t x y a b) (fun _ _ _ _ _ => slowBin P op t x y a b) (slowBin P op t x y a b) (fun _ => slowBin P op t x y a b) (slowBin P op t x y a b) (slowBin P op t x y a b) (fun _ => slowBin P op t x y a b) (fun _ => slowBin P op t x y a b) (fun _ _ => slowBin P op t x y a b) (fun _ => slowBin P op t x y a b) (fun _ => slowBin P op t x y a b)) (fun _ => slowBin P op t x y a b) b2) (fun _ => slowBin P op t x y a b) b)
  (fun _ => slowBin P op t x y a b) (slowBin P op t x y a b) (fun _ _ => slowBin P op t x y a b) (slowBin P op t x y a b) (fun _ _ _ _ => slowBin P op t x y a b) (fun _ _ _ _ _ => slowBin P op t x y a b) (slowBin P op t x y a b) (fun _ => slowBin P op t x y a b) (slowBin P op t x y a b) (slowBin P op t x y a b) (fun _ => slowBin P op t x y a b) (fun _ => slowBin P op t x y a b) (fun _ _ => slowBin P op t x y a b) (fun _ => slowBin P op t x y a b) (fun _ => slowBin P op t x y a b)) (fun _ => slowBin P op t x y a b) a2) (fun _ => slowBin P op t x y a b) a
theorem bin1_eq (op : BinOp) (t : TypeId) (x y : Operand) (a b : AV) : bin1 P op t x y a b = slowBin P op t x y a b := by
 cases a with
 | tup _ => rfl
 | v a =>
  cases a with
  | agg _ => rfl
  | one a =>
   cases a <;> try rfl
   cases b with
   | tup _ => rfl
   | v b =>
    cases b with
    | agg _ => rfl
    | one b =>
     cases b <;> try rfl
     exact binI_eq P _ _ _ _ _ _
/-! ### The operations, each by itself -/
noncomputable def oMove (A : Fr) (x : Operand) : Out := ofV (gA A x)
noncomputable def oPick (A : Fr) (c x y : Operand) : Out := ofV (match gA A c with
   | some (.v (.one (.b true))) => gA A x
   | some (.v (.one (.b false))) => gA A y
   | _ => none)
noncomputable def oBin (A : Fr) (op : BinOp) (t : TypeId) (x y : Operand) : Out := Option.rec (motive := fun _ => Out) .no (fun a => Option.rec (motive := fun _ => Out) .no (fun b => ofV (bin1 P op t x y a b)) (gA A y)) (gA A x)
noncomputable def oUn (A : Fr) (op : UnOp) (x : Operand) : Out := ofV ((gA A x).bind fun a => evUn op a)
noncomputable def oConv (A : Fr) (h : Hp) (s d : TypeId) (x : Operand) : Out := match gA A x with
 | some a => match evConvP P s d a with
   | some v => .val v []
   | none => ofE (evConvM P h s d a)
 | none => .no
noncomputable def oFieldAddr (A : Fr) (s : TypeId) (x : Operand) (f : Nat) : Out := ofV (match gA A x, fieldOff P s f with
   | some (.v (.one (.p k q))), some (d, ty) => match sizeT P ty with
      | some (Nat.succ _) => some (.v (.one (.p k (q + d))))
      | _ => none
   | _, _ => none)
noncomputable def oField (A : Fr) (t : TypeId) (x : Operand) (f : Nat) : Out := ofV ((gA A x).bind fun v => evField P t v f)
noncomputable def oIndexAddr (A : Fr) (t : TypeId) (x i : Operand) : Out := ofV ((gA A x).bind fun a => (gA A i).bind fun b => evIndexAddr P t a b)
noncomputable def oIndex (A : Fr) (t : TypeId) (x i : Operand) : Out := ofV ((gA A x).bind fun a => (gA A i).bind fun b => evIndex P t a b)
noncomputable def oExtract (A : Fr) (x : Operand) (i : Nat) : Out := ofV (match gA A x with
   | some (.tup l) => (l[i]?).map .v
   | _ => none)
noncomputable def oNil (A : Fr) (x : Operand) : Out := ofV (match gA A x with
   | some (.v (.one (.p k q))) => some (.v (.one (.p k q)))
   | _ => none)
noncomputable def oLoad (A : Fr) (h : Hp) (t : TypeId) (x : Operand) : Out := ofV ((gA A x).bind fun v => evLoad P t v h)
noncomputable def oStore (A : Fr) (h : Hp) (t : TypeId) (x y : Operand) : Out := ofE ((gA A x).bind fun a => (gA A y).bind fun b => (evStore P t a b h).map fun us => (undefA, us))
noncomputable def oBox (A : Fr) (h : Hp) (e : TypeId) (x : Operand) : Out := ofE (match gA A x with
   | some (.v v) => evNew h e v
   | _ => none)
def oSlow (A : Fr) (h : Hp) (o : Oper) : Out := opS P A h o
/-- A call's function, by its value; the others. -/
noncomputable def oCallV (A : Fr) (h : Hp) (f : Operand) (args : Array Operand) : Out := ofC (match allSome (gA A) args.toList with
   | some xs => match gA A f with
     | some (.v (.one (.f g))) => some (g, xs)
     | some (.v (.one (.clo k))) => match h.get k with
       | some (.clo g caps) => some (g, xs ++ caps.map .v)
       | _ => none
     | _ => none
   | none => none)
noncomputable def oCall (A : Fr) (h : Hp) (o : Oper) (c : Call) : Out := match c.callee with
 | .value f => oCallV A h f c.args
 | .builtin _ => oSlow P A h o
 | .invoke _ _ => oSlow P A h o
noncomputable def opF (A : Fr) (h : Hp) (o : Oper) : Out := match o.op with
 | .move x => oMove A x
 | .assign x => oMove A x
 | .pick c x y => oPick A c x y
 | .binOp op t x y _ => oBin P A op t x y
 | .unOp op _ x => oUn A op x
 | .convert s d x => oConv P A h s d x
 | .fieldAddr s x f => oFieldAddr P A s x f
 | .field t x f => oField P A t x f
 | .indexAddr t x i => oIndexAddr P A t x i
 | .index t x i => oIndex P A t x i
 | .extract x i => oExtract A x i
 | .nilCheck x => oNil A x
 | .load t x => oLoad P A h t x
 | .store t x y => oStore P A h t x y
 | .box e x => oBox A h e x
 | .call c => oCall P A h o c
 | _ => oSlow P A h o
theorem pureOut {A : Fr} {h : Hp} {o : Oper} {r : Option AV} (h1 : evPure P A o = r) (h2 : evRead P A h o = none) (h3 : evEff P A h o = none) (h4 : evEnter A h o = none) : ofV r = opS P A h o := by
 unfold opS
 rw [h1, h2, h3, h4]
 cases r <;> rfl
theorem readOut {A : Fr} {h : Hp} {o : Oper} {r : Option AV} (h1 : evPure P A o = none) (h2 : evRead P A h o = r) (h3 : evEff P A h o = none) (h4 : evEnter A h o = none) : ofV r = opS P A h o := by
 unfold opS
 rw [h1, h2, h3, h4]
 cases r <;> rfl
theorem effOut {A : Fr} {h : Hp} {o : Oper} {r : Option (AV × List U)} (h1 : evPure P A o = none) (h2 : evRead P A h o = none) (h3 : evEff P A h o = r) (h4 : evEnter A h o = none) : ofE r = opS P A h o := by
 unfold opS
 rw [h1, h2, h3, h4]
 cases r <;> rfl
theorem enterOut {A : Fr} {h : Hp} {o : Oper} {r : Option (Nat × List AV)} (h1 : evPure P A o = none) (h2 : evRead P A h o = none) (h3 : evEff P A h o = none) (h4 : evEnter A h o = r) : ofC r = opS P A h o := by
 unfold opS
 rw [h1, h2, h3, h4]
 cases r <;> rfl
theorem opF_eq (A : Fr) (h : Hp) (o : Oper) : opF P A h o = opS P A h o := by
 obtain ⟨dst, op, ty, pos, after, guard⟩ := o
 cases op <;> try rfl
 case move x => simp only [opF, oMove, gA_eq]; exact pureOut P rfl rfl rfl rfl
 case assign x => simp only [opF, oMove, gA_eq]; exact pureOut P rfl rfl rfl rfl
 case pick c x y => simp only [opF, oPick, gA_eq]; exact pureOut P rfl rfl rfl rfl
 case binOp op t x y yt =>
  rw [← pureOut P (A := A) (h := h) (o := ⟨dst, .binOp op t x y yt, ty, pos, after, guard⟩) (r := (evA A x).bind fun a => (evA A y).bind fun b => slowBin P op t x y a b) rfl rfl rfl rfl]
  simp only [opF, oBin, gA_eq, bin1_eq]
  cases evA A x with
  | none => rfl
  | some a => cases evA A y <;> rfl
 case unOp op t x => simp only [opF, oUn, gA_eq]; exact pureOut P rfl rfl rfl rfl
 case convert s d x =>
  simp only [opF, oConv, gA_eq]
  unfold opS
  simp only [evPure, evRead, evEff, evEnter]
  cases hx : evA A x with
  | none => rfl
  | some a =>
   simp only [Option.bind_some]
   cases evConvP P s d a with
   | some v => rfl
   | none => simp only [ofE]; try (cases evConvM P h s d a <;> rfl)
 case fieldAddr s x f => simp only [opF, oFieldAddr, gA_eq]; exact pureOut P rfl rfl rfl rfl
 case field t x f => simp only [opF, oField, gA_eq]; exact pureOut P rfl rfl rfl rfl
 case indexAddr t x i => simp only [opF, oIndexAddr, gA_eq]; exact pureOut P rfl rfl rfl rfl
 case index t x i => simp only [opF, oIndex, gA_eq]; exact pureOut P rfl rfl rfl rfl
 case extract x i => simp only [opF, oExtract, gA_eq]; exact pureOut P rfl rfl rfl rfl
 case nilCheck x => simp only [opF, oNil, gA_eq]; exact pureOut P rfl rfl rfl rfl
 case load t x => simp only [opF, oLoad, gA_eq]; exact readOut P rfl rfl rfl rfl
 case store t x y => simp only [opF, oStore, gA_eq]; exact effOut P rfl rfl rfl rfl
 case box e x => simp only [opF, oBox, gA_eq]; exact effOut P rfl rfl rfl rfl
 case call c =>
  obtain ⟨callee, args, ats⟩ := c
  cases callee <;> try rfl
  rename_i f
  simp only [opF, oCall, oCallV, gA_eq, gA_fun]
  refine enterOut P ?_ ?_ ?_ ?_
  · simp only [evPure]
  · simp only [evRead]
  · simp only [evEff]
  · simp only [evEnter]
    cases allSome (evA A) args.toList <;> rfl
end
end Go.Ev
