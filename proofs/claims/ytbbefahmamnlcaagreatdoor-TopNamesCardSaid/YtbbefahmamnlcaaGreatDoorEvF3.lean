/- A faster reckoner, the same by proof: code and calls. -/
import Derived.Test.YtbbefahmamnlcaaGreatDoorEvS
set_option linter.unusedVariables false
set_option linter.unusedSimpArgs false
set_option linter.unusedSectionVars false
namespace Go.Ev
open Go Go.RowKit
section
variable (P : Program)
noncomputable def wantedG (ops : Array Oper) (A : Fr) (o : Oper) : Option Bool := Option.rec (motive := fun _ => Option Bool) (some true) (fun _ => wantedA ops A o) o.guard
theorem wantedG_eq (ops : Array Oper) (A : Fr) (o : Oper) : wantedG ops A o = wantedA ops A o := by
 obtain ⟨dst, op, ty, pos, after, guard⟩ := o
 cases guard <;> rfl
noncomputable def runOut (call : CallT) (A : Fr) (n : Nat) (t : Tr AO) (m : Nat) (d : Option Tmp) (x : Out) : Option St :=
 Out.rec (motive := fun _ => Option St) (fun v us => gPut A n t m d v us some) (fun f xs => gN f fun f => match call f xs ⟨t, m⟩ with
  | some (v, ⟨t', m'⟩) => gPut A n t' m' d v [] some
  | none => none) none x
noncomputable def doOpG (call : CallT) (ops : Array Oper) (s : St) (o : Oper) : Option St := match s with
 | ⟨A, n, ⟨t, m⟩⟩ => match wantedG ops A o with
  | some true => runOut call A n t m o.dst (opF P A ⟨t, m⟩ o)
  | some false => gPut A n t m o.dst undefA [] some
  | none => none
theorem doOpG_eq (call : CallT) (ops : Array Oper) (s : St) (o : Oper) : doOpG P call ops s o = doOp P call ops s o := by
 obtain ⟨A, n, t, m⟩ := s
 unfold doOpG doOp
 simp only [wantedG_eq, opF_eq, gPut_eq]
 cases wantedA ops A o with
 | none => rfl
 | some b =>
  cases b with
  | false => rfl
  | true =>
   simp only
   unfold opS
   cases evPure P A o with
   | some v => exact gPut_eq _ _ _ _ _ _ _ _
   | none =>
    cases evRead P A ⟨t, m⟩ o with
    | some v => exact gPut_eq _ _ _ _ _ _ _ _
    | none =>
     cases evEff P A ⟨t, m⟩ o with
     | some p => obtain ⟨v, us⟩ := p; exact gPut_eq _ _ _ _ _ _ _ _
     | none =>
      cases evEnter A ⟨t, m⟩ o with
      | none => rfl
      | some p =>
       obtain ⟨f, xs⟩ := p
       show (gN f fun f => match call f xs ⟨t, m⟩ with | some (v, ⟨t', m'⟩) => gPut A n t' m' o.dst v [] some | none => none) = fN f fun f => match call f xs ⟨t, m⟩ with | some (v, h') => putF ⟨A, n, h'⟩ o.dst v [] some | none => none
       rw [gN_eq, fN_eq]
       cases call f xs ⟨t, m⟩ with
       | none => rfl
       | some q =>
        obtain ⟨v, t', m'⟩ := q
        exact gPut_eq _ _ _ _ _ _ _ _
noncomputable def doOpsG (call : CallT) (ops : Array Oper) (l : List Oper) : St → Option St := List.rec (motive := fun _ => St → Option St) (fun s => some s) (fun o _ ih s => match doOpG P call ops s o with
  | some s' => ih s'
  | none => none) l
theorem doOpsG_eq (call : CallT) (ops : Array Oper) : ∀ (l : List Oper) (s : St), doOpsG P call ops l s = doOps P call ops l s
 | [], _ => rfl
 | o :: l, s => by
  show (match doOpG P call ops s o with | some s' => doOpsG P call ops l s' | none => none) = _
  unfold doOps
  rw [doOpG_eq]
  cases doOp P call ops s o with
  | none => rfl
  | some s' => exact doOpsG_eq call ops l s'
/-! ### Drawn regions -/
noncomputable def gSm (s : Sm) {β : Type} (k : Sm → β) : β := Sm.rec (motive := fun _ => β) (fun b d t l tk => gN b fun b => gN d fun d => gN t fun t => gN l fun l => fB tk fun tk => k ⟨b, d, t, l, tk⟩) s
theorem gSm_eq {β : Type} (s : Sm) (k : Sm → β) : gSm s k = k s := by
 obtain ⟨b, d, t, l, tk⟩ := s
 simp only [gSm, gN_eq, fB_eq]
noncomputable def gSms {β : Type} (l : List Sm) (k : List Sm → β) : β := gL (fun s k => gSm s k) l k
theorem gSms_eq {β : Type} (l : List Sm) (k : List Sm → β) : gSms l k = k l := gL_eq (fun s k => gSm_eq s k) l k
/-- The order, worked out. -/
noncomputable def gSch {β : Type} (s : Sch) : (Sch → β) → β := Sch.rec (motive := fun _ => (Sch → β) → β) (fun k => k .done) (fun i _ ih k => gN i fun i => ih fun t => k (.take i t)) (fun i _ ih k => gN i fun i => ih fun t => k (.one i t)) (fun i j _ _ ih1 ih2 k => gN i fun i => gN j fun j => ih1 fun t => ih2 fun u => k (.two i j t u)) s
theorem gSch_eq {β : Type} : ∀ (s : Sch) (k : Sch → β), gSch s k = k s := by
 intro s
 induction s with
 | done => intro k; rfl
 | take i t ih => intro k; show gN i (fun i => gSch t fun t => k (.take i t)) = _; rw [gN_eq, ih]
 | one i t ih => intro k; show gN i (fun i => gSch t fun t => k (.one i t)) = _; rw [gN_eq, ih]
 | two i j t u ih1 ih2 => intro k; show gN i (fun i => gN j fun j => gSch t fun t => gSch u fun u => k (.two i j t u)) = _; rw [gN_eq, gN_eq, ih1, ih2]
/-- An order that serves, or none. -/
noncomputable def planG (ops : Array Oper) : Option Sch := gSms (smL P ops ops.toList 0) fun sm => gSch (schS sm ops.size 0) fun l => match okS sm ops.size l 0 && Region.noSelect ops with
 | true => some l
 | false => none
theorem planG_eq (ops : Array Oper) : planG P ops = (match schedOk ops ops.size (sched P ops ops.size (Array.replicate ops.size false)) (Array.replicate ops.size false) && Region.noSelect ops with
 | true => some (sched P ops ops.size (Array.replicate ops.size false))
 | false => none) := by
 unfold planG
 rw [gSms_eq, gSch_eq, schS_eq _ _ _ (ML.start ops.size), okS_eq _ _ _ _ (ML.start ops.size)]
noncomputable def oPure (A : Fr) (o : Oper) : Option AV := match o.op with
 | .move x => gA A x
 | .assign x => gA A x
 | .binOp op t x y _ => Option.rec (motive := fun _ => Option AV) none (fun a => Option.rec (motive := fun _ => Option AV) none (fun b => bin1 P op t x y a b) (gA A y)) (gA A x)
 | .load _ _ => none
 | _ => evPure P A o
theorem oPure_eq (A : Fr) (o : Oper) : oPure P A o = evPure P A o := by
 obtain ⟨dst, op, ty, pos, after, guard⟩ := o
 cases op <;> try rfl
 case move x => exact gA_eq A x
 case assign x => exact gA_eq A x
 case binOp op t x y yt =>
  show Option.rec (motive := fun _ => Option AV) none (fun a => Option.rec (motive := fun _ => Option AV) none (fun b => bin1 P op t x y a b) (gA A y)) (gA A x) = _
  rw [gA_eq, gA_eq]
  have e : evPure P A ⟨dst, .binOp op t x y yt, ty, pos, after, guard⟩ = (evA A x).bind fun a => (evA A y).bind fun b => slowBin P op t x y a b := rfl
  rw [e]
  cases evA A x with
  | none => rfl
  | some a =>
   cases evA A y with
   | none => rfl
   | some b => exact bin1_eq P op t x y a b
noncomputable def doOpDG (call : CallT) (ops : Array Oper) (n0 i : Nat) (s : St) (o : Oper) : Option St :=
 match o.op with
 | .alloc e => doOpD P call ops n0 i s o
 | _ => doOpG P call ops s o
theorem doOpDG_eq (call : CallT) (ops : Array Oper) (n0 i : Nat) (s : St) (o : Oper) : doOpDG P call ops n0 i s o = doOpD P call ops n0 i s o := by
 obtain ⟨dst, op, ty, pos, after, guard⟩ := o
 cases op <;> first | rfl | exact doOpG_eq P call ops s _
noncomputable def runG (call : CallT) (ops : Array Oper) (n0 : Nat) (l : Sch) : St → Option (St × List FactA × List (Nat × Hp)) := Sch.rec (motive := fun _ => St → Option (St × List FactA × List (Nat × Hp)))
 (fun s => some (s, [], []))
 (fun i _ ih s => match ops[i]? with
  | some o => match s with
   | ⟨A, n, ⟨t, m⟩⟩ => match wantedG ops A o with
    | some true => match oPure P A o with
      | some v => gPut A n t m o.dst v [] ih
      | none => match evSpot P A o with
        | some (g, f) => match cellsAt ⟨t, m⟩ f with
           | some cs => match spotVal g cs with
             | some v => match gPut A n t m o.dst v [] ih with
               | some (s', fs, hs) => some (s', (i, f, cs) :: fs, hs)
               | none => none
             | none => none
           | none => none
        | none => none
    | some false => gPut A n t m o.dst undefA [] ih
    | none => none
  | none => none)
 (fun i _ ih s => match ops[i]? with
  | some o => match doOpDG P call ops n0 i s o with
    | some s1 => match ih s1 with
      | some (s', fs, hs) => some (s', fs, (i, s1.h) :: hs)
      | none => none
    | none => none
  | none => none)
 (fun i j _ _ ih1 ih2 s => match ops[i]?, ops[j]? with
  | some o, some q => match doOpDG P call ops n0 i s o, doOpDG P call ops n0 j s q with
    | some s1, some s2 => match ih1 s1, ih2 s2 with
      | some (s', fs, hs), some (s2', fs2, hs2) => if s' = s2' then some (s', fs ++ fs2, (i, s1.h) :: (j, s2.h) :: (hs ++ hs2)) else none
      | _, _ => none
    | _, _ => none
  | _, _ => none) l
theorem gPut_fn {β : Type} (A : Fr) (n : Nat) (t : Tr AO) (m : Nat) (d : Option Tmp) (v : AV) (us : List U) {k k' : St → Option β} (hk : ∀ s, k s = k' s) : gPut A n t m d v us k = putF ⟨A, n, ⟨t, m⟩⟩ d v us k' := by
 rw [gPut_eq, show k = k' from funext hk]
theorem runG_eq (call : CallT) (ops : Array Oper) (n0 : Nat) : ∀ (l : Sch) (s : St), runG P call ops n0 l s = runSch P call ops n0 l s := by
 intro l
 induction l with
 | done => intro s; rfl
 | take i l ih =>
  intro s
  obtain ⟨A, n, t, m⟩ := s
  show (match ops[i]? with
  | some o => match wantedG ops A o with
    | some true => match oPure P A o with
      | some v => gPut A n t m o.dst v [] (runG P call ops n0 l)
      | none => match evSpot P A o with
        | some (g, f) => match cellsAt ⟨t, m⟩ f with
           | some cs => match spotVal g cs with
             | some v => match gPut A n t m o.dst v [] (runG P call ops n0 l) with
               | some (s', fs, hs) => some (s', (i, f, cs) :: fs, hs)
               | none => none
             | none => none
           | none => none
        | none => none
    | some false => gPut A n t m o.dst undefA [] (runG P call ops n0 l)
    | none => none
  | none => none) = _
  unfold runSch
  cases ops[i]? with
  | none => rfl
  | some o =>
   simp only [wantedG_eq, oPure_eq, gPut_fn A n t m _ _ _ ih]
   rfl
 | one i l ih =>
  intro s
  show (match ops[i]? with
  | some o => match doOpDG P call ops n0 i s o with
    | some s1 => match runG P call ops n0 l s1 with
      | some (s', fs, hs) => some (s', fs, (i, s1.h) :: hs)
      | none => none
    | none => none
  | none => none) = _
  unfold runSch
  simp only [doOpDG_eq, ih]
  rfl
 | two i j l k ih1 ih2 =>
  intro s
  show (match ops[i]?, ops[j]? with
  | some o, some q => match doOpDG P call ops n0 i s o, doOpDG P call ops n0 j s q with
    | some s1, some s2 => match runG P call ops n0 l s1, runG P call ops n0 k s2 with
      | some (s', fs, hs), some (s2', fs2, hs2) => if s' = s2' then some (s', fs ++ fs2, (i, s1.h) :: (j, s2.h) :: (hs ++ hs2)) else none
      | _, _ => none
    | _, _ => none
  | _, _ => none) = _
  unfold runSch
  simp only [doOpDG_eq, ih1, ih2]
  rfl
noncomputable def drawnG (call : CallT) (ops : Array Oper) (s : St) : Option St := match planG P ops with
 | some l => match s with
  | ⟨A, n, ⟨t, n0⟩⟩ => gN (n0 + allocNo ops ops.size) fun m => if m ≤ 2 ^ D then match runG P call ops n0 l ⟨A, n, ⟨t, m⟩⟩ with
    | some (s', fs, hs) => match fs.all (factsOk ops n0 ⟨t, m⟩ hs) with
      | true => some s'
      | false => none
    | none => none
   else none
 | none => none
theorem drawnG_eq (call : CallT) (ops : Array Oper) (s : St) : drawnG P call ops s = doDrawn P call ops s := by
 obtain ⟨A, n, t, n0⟩ := s
 unfold drawnG doDrawn
 rw [planG_eq]
 simp only [fN_eq, gN_eq, runG_eq]
 cases schedOk ops ops.size (sched P ops ops.size (Array.replicate ops.size false)) (Array.replicate ops.size false) && Region.noSelect ops with
 | false => rfl
 | true => rfl
variable (ext : CallT)
noncomputable def callG (ev : Code → St → Option (X × St)) : CallT := fun f xs h =>
 match ext f xs h with
 | some r => some r
 | none => match P.funcs[f]? with
   | some fn => match fn.body with
     | some b => if Nat.max fn.ntmps xs.length ≤ 256 then gN (Nat.max fn.ntmps xs.length) fun n => gArgs xs 0 (.lf none) fun A => match ev b ⟨A, n, h⟩ with
       | some (.normal, s') | some (.ret, s') => match s' with
          | ⟨A, _, h⟩ => (resultsA P fn A h).map fun v => (v, h)
       | _ => none
      else none
     | none => none
   | none => none
theorem callG_eq (ev ev' : Code → St → Option (X × St)) (he : ∀ c s, ev c s = ev' c s) : callG P ext ev = callA P ext ev' := by
 funext f xs h
 unfold callG callA
 simp only [gN_eq, gArgs_eq, fArgs_eq, he]
 rfl
noncomputable def thenG (r : Option (X × St)) (k : St → Option (X × St)) : Option (X × St) :=
 Option.rec (motive := fun _ => Option (X × St)) none (fun p => Prod.rec (motive := fun _ => Option (X × St)) (fun x s => X.rec (motive := fun _ => Option (X × St)) (k s) (fun j => some (.exit j, s)) (some (.ret, s)) x) p) r
theorem thenG_eq (r : Option (X × St)) (k : St → Option (X × St)) : thenG r k = match r with | some (.normal, s') => k s' | r => r := by
 cases r with
 | none => rfl
 | some p =>
  obtain ⟨x, s⟩ := p
  cases x <;> rfl
noncomputable def blockG (id : Nat) (r : Option (X × St)) : Option (X × St) :=
 Option.rec (motive := fun _ => Option (X × St)) none (fun p => Prod.rec (motive := fun _ => Option (X × St)) (fun x s => X.rec (motive := fun _ => Option (X × St)) (some (.normal, s)) (fun j => Bool.rec (motive := fun _ => Option (X × St)) (some (.exit j, s)) (some (.normal, s)) (Nat.beq j id)) (some (.ret, s)) x) p) r
theorem blockG_eq (id : Nat) (r : Option (X × St)) : blockG id r = match r with
    | some (.exit j, s') => if j = id then some (.normal, s') else some (.exit j, s')
    | r => r := by
 cases r with
 | none => rfl
 | some p =>
  obtain ⟨x, s⟩ := p
  cases x with
  | normal => rfl
  | ret => rfl
  | exit j =>
   show (Bool.rec (motive := fun _ => Option (X × St)) (some (.exit j, s)) (some (.normal, s)) (Nat.beq j id)) = if j = id then some (.normal, s) else some (.exit j, s)
   by_cases h : j = id
   · subst h
     simp
   · have : Nat.beq j id = false := by
      cases hb : Nat.beq j id with
      | false => rfl
      | true => exact absurd (Nat.eq_of_beq_eq_true hb) h
     rw [this, if_neg h]
noncomputable def regionG (call : CallT) (ops : Array Oper) (d : Bool) (s : St) : Option (X × St) :=
 Option.rec (motive := fun _ => Option (X × St)) none (fun s' => some (.normal, s')) (Bool.rec (motive := fun _ => Option St) (doOpsG P call ops ops.toList s) (drawnG P call ops s) d)
noncomputable def condG (A : Fr) (x : Operand) (a b : Option (X × St)) : Option (X × St) := match gA A x with
 | some (.v (.one (.b true))) => a
 | some (.v (.one (.b false))) => b
 | _ => none
noncomputable def evG : Nat → Code → St → Option (X × St) := fun n => Nat.rec (motive := fun _ => Code → St → Option (X × St)) (fun _ _ => none) (fun n ih c s => match c with
  | .skip => some (.normal, s)
  | .label _ => some (.normal, s)
  | .region _ ops d => regionG P (callG P ext ih) ops d s
  | .seq a b => thenG (ih a s) (ih b)
  | .cond x a b => condG s.A x (ih a s) (ih b s)
  | .block id b => blockG id (ih b s)
  | .loop b => thenG (ih b s) (ih (.loop b))
  | .exit id => some (.exit id, s)
  | .ret => some (.ret, s)
  | _ => none) n
theorem evG_eq : ∀ (n : Nat) (c : Code) (s : St), evG P ext n c s = evCode P ext n c s
 | 0, _, _ => rfl
 | n + 1, c, s => by
  have ih := evG_eq n
  have hc : callG P ext (evG P ext n) = callA P ext (evCode P ext n) := callG_eq P ext _ _ ih
  unfold evCode
  cases c <;> try rfl
  case region id ops d =>
   show regionG P (callG P ext (evG P ext n)) ops d s = _
   rw [hc]
   cases d with
   | false =>
    show Option.rec (motive := fun _ => Option (X × St)) none (fun s' => some (.normal, s')) (doOpsG P _ ops ops.toList s) = _
    rw [doOpsG_eq]
    simp only
    cases doOps P (callA P ext (evCode P ext n)) ops ops.toList s <;> rfl
   | true =>
    show Option.rec (motive := fun _ => Option (X × St)) none (fun s' => some (.normal, s')) (drawnG P _ ops s) = _
    rw [drawnG_eq]
    simp only
    cases doDrawn P (callA P ext (evCode P ext n)) ops s <;> rfl
  case seq a b =>
   show thenG (evG P ext n a s) (evG P ext n b) = _
   rw [thenG_eq, ih]
   simp only [ih]
   rfl
  case cond x a b =>
   show condG s.A x (evG P ext n a s) (evG P ext n b s) = _
   unfold condG
   rw [gA_eq, ih, ih]
   rfl
  case block id b =>
   show blockG id (evG P ext n b s) = _
   rw [blockG_eq, ih]
   rfl
  case loop b =>
   show thenG (evG P ext n b s) (evG P ext n (.loop b)) = _
   rw [thenG_eq, ih]
   simp only [ih]
   rfl
end
end Go.Ev
