/- A faster reckoner, the same by proof: trees, forced values. -/
import Derived.Test.YtbbefahmamnlcaaGreatDoorEv14
set_option linter.unusedVariables false
set_option linter.unusedSimpArgs false
set_option linter.unusedSectionVars false
namespace Go.Ev
open Go Go.RowKit
section
variable {α β : Type}
noncomputable def gT : Nat → Tr α → Nat → Option α := fun d => Nat.rec (motive := fun _ => Tr α → Nat → Option α) (fun t _ => Tr.rec (motive := fun _ => Option α) (fun o => o) (fun _ _ _ _ => none) t) (fun _ ih t k => Tr.rec (motive := fun _ => Option α) (fun _ => none) (fun l r _ _ => Bool.rec (motive := fun _ => Option α) (ih r (Nat.div k 2)) (ih l (Nat.div k 2)) (Nat.beq (Nat.mod k 2) 0)) t) d
noncomputable def sT : Nat → Tr α → Nat → Option α → (Tr α → β) → β := fun d => Nat.rec (motive := fun _ => Tr α → Nat → Option α → (Tr α → β) → β) (fun _ _ o c => c (.lf o)) (fun _ ih t k o c => Tr.rec (motive := fun _ => β) (fun _ => Bool.rec (motive := fun _ => β) (ih (.lf none) (Nat.div k 2) o fun r => c (.nd (.lf none) r)) (ih (.lf none) (Nat.div k 2) o fun l => c (.nd l (.lf none))) (Nat.beq (Nat.mod k 2) 0)) (fun l r _ _ => Bool.rec (motive := fun _ => β) (ih r (Nat.div k 2) o fun r => c (.nd l r)) (ih l (Nat.div k 2) o fun l => c (.nd l r)) (Nat.beq (Nat.mod k 2) 0)) t) d
theorem gT_eq : ∀ (d : Nat) (t : Tr α) (k : Nat), gT d t k = Tr.get d t k
 | 0, .lf _, _ => rfl
 | 0, .nd _ _, _ => rfl
 | d + 1, .lf _, _ => rfl
 | d + 1, .nd l r, k => by
  rw [Tr.get_nd, ← gT_eq d l, ← gT_eq d r]
  show (Bool.rec (motive := fun _ => Option α) (gT d r (k / 2)) (gT d l (k / 2)) (Nat.beq (k % 2) 0)) = _
  cases Nat.beq (k % 2) 0 <;> rfl
theorem sT_eq : ∀ (d : Nat) (t : Tr α) (k : Nat) (o : Option α) (c : Tr α → β), sT d t k o c = c (Tr.set d t k o)
 | 0, _, _, _, _ => rfl
 | d + 1, .nd l r, k, o, c => by
  rw [Tr.set_nd]
  show (Bool.rec (motive := fun _ => β) (sT d r (k / 2) o fun r => c (.nd l r)) (sT d l (k / 2) o fun l => c (.nd l r)) (Nat.beq (k % 2) 0)) = _
  rw [sT_eq d, sT_eq d]
  cases Nat.beq (k % 2) 0 <;> rfl
 | d + 1, .lf x, k, o, c => by
  rw [Tr.set_lf]
  show (Bool.rec (motive := fun _ => β) (sT d (.lf none) (k / 2) o fun r => c (.nd (.lf none) r)) (sT d (.lf none) (k / 2) o fun l => c (.nd l (.lf none))) (Nat.beq (k % 2) 0)) = _
  rw [sT_eq d, sT_eq d]
  cases Nat.beq (k % 2) 0 <;> rfl
/-- Lists, item by item. -/
noncomputable def gL (f : α → (α → β) → β) (l : List α) : (List α → β) → β := List.rec (motive := fun _ => (List α → β) → β) (fun k => k []) (fun a _ ih k => f a fun a => ih fun l => k (a :: l)) l
theorem gL_eq {f : α → (α → β) → β} (hf : ∀ a k, f a k = k a) : ∀ (l : List α) (k : List α → β), gL f l k = k l
 | [], _ => rfl
 | a :: l, k => by
  show f a (fun a => gL f l fun l => k (a :: l)) = _
  rw [hf, gL_eq hf l]
noncomputable def gN (n : Nat) (k : Nat → β) : β := Nat.rec (motive := fun _ => β) (k 0) (fun m _ => k (Nat.succ m)) n
theorem gN_eq (n : Nat) (k : Nat → β) : gN n k = k n := by cases n <;> rfl
noncomputable def gI (n : Int) (k : Int → β) : β := Int.rec (motive := fun _ => β) (fun m => gN m fun m => k (.ofNat m)) (fun m => gN m fun m => k (.negSucc m)) n
theorem gI_eq (n : Int) (k : Int → β) : gI n k = k n := by cases n <;> simp only [gI, gN_eq]
noncomputable def gC (c : CapE) (k : CapE → β) : β := CapE.rec (motive := fun _ => β) (fun n => gN n fun n => k (.ex n)) (fun n => gN n fun n => k (.un n)) c
theorem gC_eq (c : CapE) (k : CapE → β) : gC c k = k c := by cases c <;> simp only [gC, gN_eq]
noncomputable def g1 (x : A1) (k : A1 → β) : β := A1.rec (motive := fun _ => β) (fun x => fB x fun x => k (.b x)) (fun q n => fK q fun q => gI n fun n => k (.i q n)) (fun l => gL gN l fun l => k (.s l)) (k .nilp) (fun a o => gN a fun a => gN o fun o => k (.p a o)) (k .nils)
 (fun a o n c => gN a fun a => gN o fun o => gN n fun n => gC c fun c => k (.sl a o n c)) (fun a o z b j => gN a fun a => gN o fun o => gN z fun z => gN b fun b => gN j fun j => k (.stl a o z b j)) (k .nilm) (fun a => gN a fun a => k (.m a)) (k .nili) (k .nilf) (fun a => gN a fun a => k (.f a)) (fun a => gN a fun a => k (.clo a)) (fun t a => gN t fun t => gN a fun a => k (.ifc t a)) x
theorem g1_eq (x : A1) (k : A1 → β) : g1 x k = k x := by
 cases x <;> simp only [g1, fB_eq, fK_eq, gI_eq, gN_eq, gC_eq]
 rw [gL_eq gN_eq]
noncomputable def g2 (x : A2) (k : A2 → β) : β := A2.rec (motive := fun _ => β) (fun x => g1 x fun x => k (.one x)) (fun l => gL g1 l fun l => k (.agg l)) x
theorem g2_eq (x : A2) (k : A2 → β) : g2 x k = k x := by
 cases x <;> simp only [g2, g1_eq]
 rw [gL_eq g1_eq]
noncomputable def gV (x : AV) (k : AV → β) : β := AV.rec (motive := fun _ => β) (fun x => g2 x fun x => k (.v x)) (fun l => gL g2 l fun l => k (.tup l)) x
theorem gV_eq (x : AV) (k : AV → β) : gV x k = k x := by
 cases x <;> simp only [gV, g2_eq]
 rw [gL_eq g2_eq]
noncomputable def gE (e : A1 × A2 × Nat) (k : A1 × A2 × Nat → β) : β := Prod.rec (motive := fun _ => β) (fun a x => Prod.rec (motive := fun _ => β) (fun b c => g1 a fun a => g2 b fun b => gN c fun c => k (a, b, c)) x) e
theorem gE_eq (x : A1 × A2 × Nat) (k : A1 × A2 × Nat → β) : gE x k = k x := by
 obtain ⟨a, b, c⟩ := x
 simp only [gE, g1_eq, g2_eq, gN_eq]
noncomputable def gO (o : AO) (k : AO → β) : β := AO.rec (motive := fun _ => β) (fun t l => gN t fun t => gL g1 l fun l => k (.cells t l)) (fun t z l => gN t fun t => gN z fun z => gL g1 l fun l => k (.row t z l)) (fun es c => gL gE es fun es => gN c fun c => k (.map es c)) (fun a b l c => gN a fun a => gN b fun b => gL gN l fun l => gN c fun c => k (.iter a b l c))
 (fun s p => gL gN s fun s => gN p fun p => k (.siter s p)) (fun f l => gN f fun f => gL g2 l fun l => k (.clo f l)) (fun t x => gN t fun t => g2 x fun x => k (.ifc t x)) o
theorem gO_eq (x : AO) (k : AO → β) : gO x k = k x := by
 cases x <;> simp only [gO, gN_eq, g2_eq]
 · rw [gL_eq g1_eq]
 · rw [gL_eq g1_eq]
 · rw [gL_eq gE_eq]
 · rw [gL_eq gN_eq]
 · rw [gL_eq gN_eq]
 · rw [gL_eq g2_eq]
noncomputable def gU (us : List U) : Tr AO → Nat → (Hp → β) → β := List.rec (motive := fun _ => Tr AO → Nat → (Hp → β) → β) (fun t n k => k ⟨t, n⟩)
 (fun u _ ih t n k => U.rec (motive := fun _ => β) (fun a o => gN a fun a => gO o fun o => sT D t a (some o) fun t => ih t n k) (fun o => gO o fun o => sT D t n (some o) fun t => ih t (Nat.succ n) k) (fun a => gN a fun a => sT D t a none fun t => ih t n k) u) us
theorem gU_eq : ∀ (us : List U) (t : Tr AO) (n : Nat) (k : Hp → β), gU us t n k = k (apU ⟨t, n⟩ us)
 | [], _, _, _ => rfl
 | .put a o :: r, t, n, k => by
  show (gN a fun a => gO o fun o => sT D t a (some o) fun t => gU r t n k) = _
  rw [gN_eq, gO_eq, sT_eq, gU_eq r]
  rfl
 | .new o :: r, t, n, k => by
  show (gO o fun o => sT D t n (some o) fun t => gU r t (Nat.succ n) k) = _
  rw [gO_eq, sT_eq, gU_eq r]
  rfl
 | .del a :: r, t, n, k => by
  show (gN a fun a => sT D t a none fun t => gU r t n k) = _
  rw [gN_eq, sT_eq, gU_eq r]
  rfl
/-- The first temporaries. -/
noncomputable def gArgs (l : List AV) : Nat → Fr → (Fr → β) → β := List.rec (motive := fun _ => Nat → Fr → (Fr → β) → β) (fun _ A k => k A) (fun v _ ih i A k => gV v fun v => sT DT A i (some v) fun A => ih (Nat.succ i) A k) l
theorem gArgs_eq : ∀ (l : List AV) (i : Nat) (A : Fr) (k : Fr → β), gArgs l i A k = k (setArgs l i A)
 | [], _, _, _ => rfl
 | v :: l, i, A, k => by
  show (gV v fun v => sT DT A i (some v) fun A => gArgs l (Nat.succ i) A k) = _
  rw [gV_eq, sT_eq, gArgs_eq l]
  rfl
noncomputable def gPut (A : Fr) (n : Nat) (t : Tr AO) (m : Nat) (d : Option Tmp) (v : AV) (us : List U) (k : St → Option β) : Option β :=
 Option.rec (motive := fun _ => Option β) (gU us t m fun h => k ⟨A, n, h⟩) (fun d => Bool.rec (motive := fun _ => Option β) none (gV v fun v => sT DT A d (some v) fun A => gU us t m fun h => k ⟨A, n, h⟩) (Nat.blt d n)) d
theorem gPut_eq (A : Fr) (n : Nat) (t : Tr AO) (m : Nat) (d : Option Tmp) (v : AV) (us : List U) (k : St → Option β) : gPut A n t m d v us k = putF ⟨A, n, ⟨t, m⟩⟩ d v us k := by
 cases d with
 | none => show (gU us t m fun h => k ⟨A, n, h⟩) = (fU ⟨t, m⟩ us fun h => k ⟨A, n, h⟩); rw [gU_eq, fU_eq]
 | some d =>
  show (Bool.rec (motive := fun _ => Option β) none (gV v fun v => sT DT A d (some v) fun A => gU us t m fun h => k ⟨A, n, h⟩) (Nat.blt d n)) = (bif Nat.blt d n then fV v fun v => fTr DT A d (some v) fun A => fU ⟨t, m⟩ us fun h => k ⟨A, n, h⟩ else none)
  rw [gV_eq, sT_eq, gU_eq, fV_eq, fTr_eq, fU_eq]
  cases Nat.blt d n <;> rfl
end
end Go.Ev
