/- The reckoner is right: what turns memory, second part. -/
import Derived.Test.YtbmdocjeepnhmaaGreatDoorExB1
set_option linter.unusedVariables false
set_option linter.unusedSimpArgs false
set_option linter.unusedSectionVars false
namespace Go.Ev
open Go Go.RowKit
variable [Sy]
section
variable {E : List Ent} {A : Fr} {n : Nat} {a : Act} {P : Program} {w0 : Base} {w : World} {h : Hp}
theorem exec_buildSlice (ha : AR E A n a) {o : Oper} {t : TypeId} {m : Nat} {ps : Array (Nat × Operand)} {qs : List (Nat × AV)} {r : AV} {us : List U} (ho : o.op = .buildSlice t m ps) (hq : allSome (fun p => (evA A p.2).map fun v => (p.1, v)) ps.toList = some qs) (he : evBuildSlice P h t m qs = some (r, us)) :
  ∃ (e : TypeId) (l : List A1) (cs : Array Value), r = .v (.one (.sl h.n 0 m (.ex m))) ∧ us = [.new (.cells e l)] ∧ h.n < 2 ^ D ∧ All2 (V1 E) l cs.toList ∧ (execOp a.eval o).run P w = .ok (.value (.slice (some ⟨w.heap.size, 0, none⟩) m m)) (w.alloc (.cells cs e)) := by
 unfold evBuildSlice at he
 split at he
 · rename_i e zs hel hzs
   have hp := parts_ok ha hq hzs
   split at he
   · rename_i z zz hs hz
     split at he
     · rename_i hc
       obtain ⟨c1, c2, c3⟩ := hc
       split at he
       · rename_i l hf
         cases he
         obtain ⟨v, hv, hzr⟩ := zero_ok (E := E) hz
         have hcells := V2.cells hv
         have hvs : v.cells.size = z := by rw [← Array.length_toList, ← hcells.length]; exact c1
         have hrow : All2 (V1 E) (zeros zz.cells m) (madeCells v.cells (m * z)).toList := by
          rw [← hvs, made_list]
          exact zeros_ok hcells _
         obtain ⟨cs, hcs, hl⟩ := fill_ok zs _ _ l _ hp hrow hf
         refine ⟨e, l, cs, rfl, rfl, c3, hl, ?_⟩
         have hno : ¬ (m * z > 2 ^ 24) := by omega
         have hcs' : Instr.fill (fun i => some (i * z, z)) (madeCells v.cells (m * z)) (ps.map fun x => (x.1, a.eval x.2)).toList = some cs := hcs
         by_cases h0 : m * z = 0
         · have e3 : (Array.range (m * z)).map (fun x => (#[] : Array Value)[x % (#[] : Array Value).size]!) = madeCells v.cells (m * z) := by rw [h0]; simp [madeCells, Array.range_zero']
           simp only [execOp, ho, Instr.buildSlice, Sem.run_bind, run_underlying (elem_ok hel), run_size hs, Result.andThen_ok, if_neg hno, if_pos h0, Sem.run_pure, e3, hcs', newRow, run_newObj]
           rfl
         · have e3 : (Array.range (m * z)).map (fun x => v.cells[x % v.cells.size]!) = madeCells v.cells (m * z) := rfl
           simp only [execOp, ho, Instr.buildSlice, Sem.run_bind, run_underlying (elem_ok hel), run_size hs, Result.andThen_ok, if_neg hno, if_neg h0, hzr, Sem.run_pure, e3, hcs', newRow, run_newObj]
           rfl
       · cases he
     · cases he
   · cases he
 · cases he
theorem turns_buildSlice (ha : AR E A n a) (hr : Rep w0 E h w) {o : Oper} {t : TypeId} {m : Nat} {ps : Array (Nat × Operand)} {qs : List (Nat × AV)} {r : AV} {us : List U} (ho : o.op = .buildSlice t m ps) (hq : allSome (fun p => (evA A p.2).map fun v => (p.1, v)) ps.toList = some qs) (he : evBuildSlice P h t m qs = some (r, us)) : Turns P w0 E a w o r (apU h us) := by
 obtain ⟨e, l, cs, rfl, rfl, c3, hl, hx⟩ := exec_buildSlice (w := w) ha ho hq he
 exact ⟨_, _, _, Pre.one E _, alloc_cells hr 0 c3 (cs := cs) (t := e) hl, ⟨w.heap.size, 0, last_new hr _, rfl, Nat.le_refl _⟩, .inl hx⟩
theorem made_args (ha : AR E A n a) {caps : Array Operand} {vs : List AV} {ws : List A2} (hv : allSome (evA A) caps.toList = some vs) (hw : allSome asV2 vs = some ws) : All2 (V2 E) ws (caps.toList.map a.eval) := by
 have h1 := args_ok ha hv
 clear hv
 generalize caps.toList.map a.eval = us at h1
 induction vs generalizing ws us with
 | nil =>
  cases us with
  | nil => cases hw; trivial
  | cons _ _ => exact h1.elim
 | cons x vs ih =>
  cases us with
  | nil => exact h1.elim
  | cons u us =>
   unfold allSome at hw
   cases hx : asV2 x with
   | none => simp [hx] at hw
   | some y =>
    cases hy : allSome asV2 vs with
    | none => simp [hx, hy] at hw
    | some ws' =>
     simp only [hx, hy, Option.some.injEq] at hw
     subst hw
     refine ⟨?_, ih hy _ h1.2⟩
     cases x with
     | v z => cases hx; exact h1.1
     | tup l => cases hx
theorem turns_makeFunc (ha : AR E A n a) (hr : Rep w0 E h w) {o : Oper} {f : FuncId} {first caps : Array Operand} {vs : List AV} {ws : List A2} (ho : o.op = .makeFunc (.func f) first caps) (hf : first.size = 0) (hn : h.n < 2 ^ D) (hf2 : f < 65536) (hv : allSome (evA A) caps.toList = some vs) (hw : allSome asV2 vs = some ws) :
  Turns P w0 E a w o (.v (.one (.clo h.n))) (apU h [.new (.clo f ws)]) := by
 have h2 := made_args ha hv hw
 have e1 : first = #[] := Array.size_eq_zero_iff.1 hf
 subst e1
 have e2 : caps.map a.eval = (caps.toList.map a.eval).toArray := Array.ext' (by rw [Array.toList_map])
 have e4 : ∀ cs, cloV f cs = .func (.func f) #[] cs := fun cs => by
  unfold cloV
  rw [isB_lo hf2]
  rfl
 refine ⟨E ++ [.clo (.func (.func f) #[] (caps.map a.eval))], w, .func (.func f) #[] (caps.map a.eval), Pre.one E _, hr.grow hn ⟨caps.toList.map a.eval, ?_, h2.imp (V2.ext (Ext.one E _))⟩ (fun b c e => by cases e), ⟨last_new hr _, _, _, _, rfl⟩, .inl ?_⟩
 · rw [last_new hr, e2, e4]
 · have e3 : (#[] : Array Operand).map a.eval = #[] := by simp
   simp only [execOp, ho, Instr.makeFunc, Sem.run_bind, Sem.run_pure, Result.andThen_ok, e3]
theorem turns_makeBound (ha : AR E A n a) (hr : Rep w0 E h w) {o : Oper} {f : FuncId} {first caps : Array Operand} {vs : List AV} {ws : List A2} (ho : o.op = .makeFunc (.func f) first caps) (hf : caps.size = 0) (hn : h.n < 2 ^ D) (hf2 : f < 65536) (hv : allSome (evA A) first.toList = some vs) (hw : allSome asV2 vs = some ws) :
  Turns P w0 E a w o (.v (.one (.clo h.n))) (apU h [.new (.clo (mkB f) ws)]) := by
 have h2 := made_args ha hv hw
 have e1 : caps = #[] := Array.size_eq_zero_iff.1 hf
 subst e1
 have e2 : first.map a.eval = (first.toList.map a.eval).toArray := Array.ext' (by rw [Array.toList_map])
 have e4 : ∀ cs, cloV (mkB f) cs = .func (.func f) cs #[] := fun cs => by
  unfold cloV
  rw [isB_mk, unB_mk]
  rfl
 refine ⟨E ++ [.clo (.func (.func f) (first.map a.eval) #[])], w, .func (.func f) (first.map a.eval) #[], Pre.one E _, hr.grow hn ⟨first.toList.map a.eval, ?_, h2.imp (V2.ext (Ext.one E _))⟩ (fun b c e => by cases e), ⟨last_new hr _, _, _, _, rfl⟩, .inl ?_⟩
 · rw [last_new hr, e2, e4]
 · have e3 : (#[] : Array Operand).map a.eval = #[] := by simp
   simp only [execOp, ho, Instr.makeFunc, Sem.run_bind, Sem.run_pure, Result.andThen_ok, e3]
/-- A function value that is made, told for all its forms. -/
theorem exec_makeFunc (ha : AR E A n a) {o : Oper} {g : Fn} {first caps : Array Operand} {y : AV} {us : List U} (ho : o.op = .makeFunc g first caps) (he : evEff P A h o = some (y, us)) :
  ∃ (f : Nat) (ws : List A2) (cs : List Value), y = .v (.one (.clo h.n)) ∧ us = [.new (.clo f ws)] ∧ All2 (V2 E) ws cs ∧ (∃ fn fs gs, cloV f cs.toArray = .func (.func fn) fs gs) ∧ (execOp a.eval o).run P w = .ok (.value (cloV f cs.toArray)) w := by
 obtain ⟨dst, op, ty, pos, after, guard⟩ := o
 simp only at ho
 subst ho
 have ho : (Oper.mk dst (.makeFunc g first caps) ty pos after guard).op = .makeFunc g first caps := rfl
 cases g with
 | func f =>
  change ite _ _ _ = _ at he
  split at he
  · rename_i hc
    obtain ⟨hf, hn, hf2⟩ := hc
    split at he
    · rename_i vs hv
      cases hw : allSome asV2 vs with
      | none => simp [hw] at he
      | some ws =>
       simp only [hw, Option.map_some, Option.some.injEq, Prod.mk.injEq] at he
       obtain ⟨rfl, rfl⟩ := he
       have e1 : first = #[] := Array.size_eq_zero_iff.1 hf
       subst e1
       have e2 : caps.map a.eval = (caps.toList.map a.eval).toArray := Array.ext' (by rw [Array.toList_map])
       have e4 : ∀ cs, cloV f cs = .func (.func f) #[] cs := fun cs => by
        unfold cloV
        rw [isB_lo hf2]
        rfl
       refine ⟨f, ws, caps.toList.map a.eval, rfl, rfl, made_args ha hv hw, ⟨_, _, _, e4 _⟩, ?_⟩
       have e3 : (#[] : Array Operand).map a.eval = #[] := by simp
       rw [e4]
       simp only [execOp, ho, Instr.makeFunc, Sem.run_bind, Sem.run_pure, Result.andThen_ok, e3, e2]
    · cases he
  · split at he
    · rename_i hc
      obtain ⟨hf, hn, hf2⟩ := hc
      split at he
      · rename_i vs hv
        cases hw : allSome asV2 vs with
        | none => simp [hw] at he
        | some ws =>
         simp only [hw, Option.map_some, Option.some.injEq, Prod.mk.injEq] at he
         obtain ⟨rfl, rfl⟩ := he
         have e1 : caps = #[] := Array.size_eq_zero_iff.1 hf
         subst e1
         have e2 : first.map a.eval = (first.toList.map a.eval).toArray := Array.ext' (by rw [Array.toList_map])
         have e4 : ∀ cs, cloV (mkB f) cs = .func (.func f) cs #[] := fun cs => by
          unfold cloV
          rw [isB_mk, unB_mk]
          rfl
         refine ⟨mkB f, ws, first.toList.map a.eval, rfl, rfl, made_args ha hv hw, ⟨_, _, _, e4 _⟩, ?_⟩
         have e3 : (#[] : Array Operand).map a.eval = #[] := by simp
         rw [e4]
         simp only [execOp, ho, Instr.makeFunc, Sem.run_bind, Sem.run_pure, Result.andThen_ok, e3, e2]
      · cases he
    · cases he
 | method _ => cases he
 | methodOf _ _ => cases he
 | via _ _ _ _ => cases he
 | yield _ => cases he
theorem turns_makeMap (ha : AR E A n a) (hr : Rep w0 E h w) {o : Oper} {t : TypeId} (ho : o.op = .makeMap t none) (hn : h.n < 2 ^ D) : Turns P w0 E a w o (.v (.one (.m h.n))) (apU h [.new (.map [] 0)]) := by
 refine ⟨_, _, _, Pre.one E _, hr.alloc (ob := .map #[] 0) (o := .map [] 0) 0 hn ⟨#[], rfl, trivial⟩, ⟨w.heap.size, 0, last_new hr _, rfl⟩, .inl ?_⟩
 simp only [execOp, ho, Instr.makeMap, Option.map_none, Sem.run_bind, Sem.run_pure, Result.andThen_ok, run_newObj]
 rfl
theorem turns_makeIface (ha : AR E A n a) (hr : Rep w0 E h w) {o : Oper} {t : TypeId} {x : Operand} {p r : AV} {us : List U} (ho : o.op = .makeInterface t x) (hx : evA A x = some p) (he : evMakeIface P h t p = some (r, us)) : Turns P w0 E a w o r (apU h us) := by
 have h1 := evA_ok ha x p hx
 unfold evMakeIface at he
 split at he
 · rename_i y hi
   obtain ⟨d, hd, hne⟩ := isIface_ok hi
   split at he
   · rename_i hn
     cases he
     refine ⟨E ++ [.clo (.iface t (a.eval x))], w, .iface t (a.eval x), Pre.one E _, hr.grow hn ⟨a.eval x, last_new hr _, V2.ext (Ext.one E _) _ _ h1⟩ (fun b c e => by cases e), ⟨last_new hr _, _, rfl⟩, .inl ?_⟩
     cases d <;> first | (exact absurd rfl (hne _)) | simp only [execOp, ho, Instr.makeInterface, Sem.run_bind, run_underlying hd, Sem.run_pure, Result.andThen_ok]
   · cases he
 · cases he
/-- A block that is no row is set. -/
theorem eff_set (hr : Rep w0 E h w) {k b c : Nat} {q q' : AO} {x x' : Obj} (hk : E[k]? = some (.blk b c)) (hq : h.get k = some q) (hx : w.heap[b]? = some x) (hno : ∀ c t f, x ≠ .cells c t f) (hi : Is E c (some x') q') :
  (setObj b x').run P w = .ok () { w with heap := w.heap.setIfInBounds b x' } ∧ Rep w0 E (h.put k q') { w with heap := w.heap.setIfInBounds b x' } := by
 have hlt := hr.old k q b c (lt_of_get hr hk) hq hk
 refine ⟨?_, hr.put hk hq ⟨hr.below.os, hr.below.tape, hr.below.output, ?_, fun j hj => ?_⟩ ?_ ?_ ?_⟩
 · cases x <;> first | (exact absurd rfl (hno _ _ _)) | simp [setObj, Sem.run, hx]
 · show w0.w.heap.size ≤ (w.heap.setIfInBounds b x').size
   rw [Array.size_setIfInBounds]
   exact hr.below.size
 · show (w.heap.setIfInBounds b x')[j]? = _
   rw [Array.getElem?_setIfInBounds, if_neg (fun e : b = j => hlt.1 (by rw [e]; exact hj))]
   exact hr.below.block j hj
 · show w.heap.size ≤ (w.heap.setIfInBounds b x').size
   rw [Array.size_setIfInBounds]
   exact Nat.le_refl _
 · have : (w.heap.setIfInBounds b x')[b]? = some x' := by simp [hlt.2]
   show Is E c (w.heap.setIfInBounds b x')[b]? q'
   rw [this]
   exact hi
 · intro j hj _
   show (w.heap.setIfInBounds b x')[j]? = _
   rw [Array.getElem?_setIfInBounds, if_neg (by omega)]
theorem turns_mapUpdate (ha : AR E A n a) (hr : Rep w0 E h w) {o : Oper} {t : TypeId} {m k x : Operand} {p q s : AV} {us : List U} (ho : o.op = .mapUpdate t m k x ∨ o.op = .insert t m k x) (hm : evA A m = some p) (hk : evA A k = some q) (hx : evA A x = some s) (he : evMapUpdate P h t p q s = some us) : Turns P w0 E a w o undefA (apU h us) := by
 have h1 := evA_ok ha m p hm
 have h2 := evA_ok ha k q hk
 have h3 := evA_ok ha x s hx
 unfold evMapUpdate at he
 split at he
 · rename_i kt e j key y hu
   obtain ⟨b, c, hb, hv⟩ := h1
   have h2 : V1 E key (a.eval k) := h2
   split at he
   · rename_i es cl hko hg
     obtain ⟨ms, hob, hme⟩ := map_of hr hb hg
     split at he
     · rename_i hf
       cases he
       rcases find_ok (w := w) hko h2 hme hf with ⟨_, hrun⟩ | ⟨j, y', u, _, _, h4, _⟩
       · have hc := check_ok (w := w) hko h2 false
         obtain ⟨g1, g2⟩ := eff_set (P := P) hr hb hg hob (fun _ _ _ => by simp) (x' := .map (ms.push { key := a.eval k, val := a.eval x, born := cl }) (cl + 1)) (q' := .map (es ++ [(key, y, cl)]) (cl + 1)) ⟨_, rfl, by
          rw [Array.toList_push]
          exact hme.append ⟨⟨h2, h3, rfl⟩, trivial⟩⟩
         refine ⟨E, _, undef, Pre.refl E, g2, undef_ok, .inr ⟨?_, rfl⟩⟩
         rcases ho with ho | ho <;> simp only [execOp, ho, hv, Instr.mapUpdate, Sem.run_bind, Sem.run_pure, Result.andThen_ok, run_underlying hu, MapKept.run_getObj_map hob, hc, hrun, g1]
       · cases h4
     · rename_i i z hf
       rcases find_ok (w := w) hko h2 hme hf with ⟨h4, _⟩ | ⟨j, y', u, e0, m0, h4, _, hrun, hei, hmi, hkey⟩
       · cases h4
       · injection h4 with h4
         injection h4 with h4 h5
         subst h4
         simp only [hei] at he
         cases he
         have hc := check_ok (w := w) hko h2 false
         have hmi2 : ms[i]? = some m0 := by rw [← Array.getElem?_toList]; exact hmi
         have hsame : Instr.sameBits 10000 m0.key (a.eval k) = true := by
          rw [hkey]
          obtain ⟨_, _, ⟨_, j', i', _, hvv, _⟩ | ⟨_, s', hvv⟩⟩ := key_ok hko h2
          · rw [hvv]
            simp [Instr.sameBits]
          · rw [hvv]
            show (s' == s') = true
            rw [beq_toListBytes]
            simp
         have hme0 : ME E e0 m0 := by
          obtain ⟨m1, g1, g2⟩ := hme.get i e0 hei
          rw [hmi] at g1
          cases g1
          exact g2
         obtain ⟨g1, g2⟩ := eff_set (P := P) hr hb hg hob (fun _ _ _ => by simp) (x' := .map (ms.modify i fun e => { e with key := a.eval k, val := a.eval x }) cl) (q' := .map (es.set i (key, y, e0.2.2)) cl) ⟨_, rfl, by
          have hlt : i < ms.toList.length := (List.getElem?_eq_some_iff.1 hmi).1
          have hmod : (ms.modify i fun e => { e with key := a.eval k, val := a.eval x }).toList = ms.toList.set i { m0 with key := a.eval k, val := a.eval x } := by
           rw [Array.toList_modify]
           apply List.ext_getElem?
           intro j
           rw [List.getElem?_modify, List.getElem?_set]
           by_cases hij : i = j
           · subst hij
             rw [hmi]
             have hlt' : i < ms.size := by rw [← Array.length_toList]; exact hlt
             simp [hlt']
           · simp [hij]
          rw [hmod]
          exact hme.set i _ _ ⟨h2, h3, hme0.2.2⟩⟩
         refine ⟨E, _, undef, Pre.refl E, g2, undef_ok, .inr ⟨?_, rfl⟩⟩
         rcases ho with ho | ho <;> simp only [execOp, ho, hv, Instr.mapUpdate, Sem.run_bind, Sem.run_pure, Result.andThen_ok, run_underlying hu, MapKept.run_getObj_map hob, hc, hrun, hmi2, Option.map_some, Option.getD_some, Instr.keyThatStays, hsame, if_true, g1]
     · cases he
   · cases he
 · cases he
theorem turns_clear (ha : AR E A n a) (hr : Rep w0 E h w) {o : Oper} {c : Call} {x : AV} {t : TypeId} {tl : List TypeId} {us : List U} (ho : o.op = .call c) (hc : c.callee = .builtin .clear) (hx : allSome (evA A) c.args.toList = some [x]) (ht : c.argTypes.toList = t :: tl)
  (he : evClear P h t x = some us) : Turns P w0 E a w o (.tup []) (apU h us) := by
 obtain ⟨v, hv, heq⟩ := args1 ha hx
 have h0 := ty0 ht
 unfold evClear at he
 split at he
 · rename_i kt e k hu
   obtain ⟨b, c', hk, hv⟩ := hv
   split at he
   · rename_i es cl hg
     cases he
     obtain ⟨ms, hob, hme⟩ := map_of hr hk hg
     obtain ⟨g1, g2⟩ := eff_set (P := P) hr hk hg hob (fun _ _ _ => by simp) (x' := .map #[] cl) (q' := .map [] cl) ⟨_, rfl, trivial⟩
     refine ⟨E, _, .tuple #[], Pre.refl E, g2, ⟨[], trivial, rfl⟩, .inl ?_⟩
     subst hv
     simp [execOp, ho, resolve, hc, heq, invoke, builtin, Builtin.clear_, h0, run_underlying hu, MapKept.run_getObj_map hob, g1]
   · cases he
 · cases he
theorem turns_delete (ha : AR E A n a) (hr : Rep w0 E h w) {o : Oper} {c : Call} {x y : AV} {t : TypeId} {tl : List TypeId} {us : List U} (ho : o.op = .call c) (hc : c.callee = .builtin .delete) (hx : allSome (evA A) c.args.toList = some [x, y]) (ht : c.argTypes.toList = t :: tl)
  (he : evDelete P h t x y = some us) : Turns P w0 E a w o (.tup []) (apU h us) := by
 obtain ⟨v, u, hv, hu', heq⟩ := args2 ha hx
 have h0 := ty0 ht
 unfold evDelete at he
 split at he
 · rename_i kt e k key hu
   obtain ⟨b, c', hk, hv⟩ := hv
   have h2 : V1 E key u := hu'
   split at he
   · rename_i es cl hko hg
     obtain ⟨ms, hob, hme⟩ := map_of hr hk hg
     have hck := check_ok (w := w) hko h2 ms.isEmpty
     split at he
     · rename_i hf
       cases he
       obtain ⟨g1, g2⟩ := eff_set (P := P) hr hk hg hob (fun _ _ _ => by simp) (x' := .map ms cl) (q' := .map es cl) ⟨_, rfl, hme⟩
       rcases find_ok (w := w) hko h2 hme hf with ⟨_, hrun⟩ | ⟨_, _, _, _, _, h4, _⟩
       · refine ⟨E, _, .tuple #[], Pre.refl E, g2, ⟨[], trivial, rfl⟩, .inl ?_⟩
         subst hv
         simp [execOp, ho, resolve, hc, heq, invoke, builtin, Builtin.delete_, h0, run_underlying hu, MapKept.run_getObj_map hob, hck, hrun, g1]
       · cases h4
     · rename_i i z hf
       cases he
       rcases find_ok (w := w) hko h2 hme hf with ⟨h4, _⟩ | ⟨j, y', u', e0, m0, h4, _, hrun, hei, hmi, hkey⟩
       · cases h4
       · injection h4 with h4
         injection h4 with h4 h5
         subst h4
         obtain ⟨g1, g2⟩ := eff_set (P := P) hr hk hg hob (fun _ _ _ => by simp) (x' := .map (ms.eraseIdxIfInBounds i) cl) (q' := .map (es.eraseIdx i) cl) ⟨_, rfl, by
          have : (ms.eraseIdxIfInBounds i).toList = ms.toList.eraseIdx i := by
           have hlt : i < ms.size := by rw [← Array.length_toList]; exact (List.getElem?_eq_some_iff.1 hmi).1
           rw [Array.eraseIdxIfInBounds, dif_pos hlt, Array.toList_eraseIdx]
          rw [this]
          exact hme.eraseIdx i⟩
         refine ⟨E, _, .tuple #[], Pre.refl E, g2, ⟨[], trivial, rfl⟩, .inl ?_⟩
         subst hv
         simp [execOp, ho, resolve, hc, heq, invoke, builtin, Builtin.delete_, h0, run_underlying hu, MapKept.run_getObj_map hob, hck, hrun, g1]
     · cases he
   · cases he
 · cases he
theorem turns_copy (ha : AR E A n a) (hr : Rep w0 E h w) {o : Oper} {c : Call} {x y r : AV} {t : TypeId} {tl : List TypeId} {us : List U} (ho : o.op = .call c) (hc : c.callee = .builtin .copy) (hx : allSome (evA A) c.args.toList = some [x, y]) (ht : c.argTypes.toList = t :: tl)
  (he : evCopy P h t x y = some (r, us)) : Turns P w0 E a w o r (apU h us) := by
 obtain ⟨v, u, hv, hu', heq⟩ := args2 ha hx
 have h0 := ty0 ht
 unfold evCopy at he
 split at he
 · cases he
 · rename_i e hel
   split at he
   · rename_i z k f i ce k2 f2 j ce2 hs
     obtain ⟨b, c', hk, hv, _⟩ := hv
     obtain ⟨b2, c2', hk2, hv2, _⟩ := hu'
     split at he
     · rename_i cs q hcs hg
       split at he
       · rename_i l hl
         split at he
         · rename_i l' hov
           cases hre : reRow q l' with
           | none => simp [hre] at he
           | some q' =>
            simp only [hre, Option.map_some, Option.some.injEq, Prod.mk.injEq] at he
            obtain ⟨rfl, rfl⟩ := he
            unfold cellsIn at hcs
            cases hg2 : h.get k2 with
            | none => simp [hg2] at hcs
            | some q2 =>
             cases hl2 : rowOf q2 with
             | none => simp [hg2, hl2] at hcs
             | some l2 =>
              simp only [hg2, hl2, Option.bind_some] at hcs
              obtain ⟨vs, hvs, hlen, hra⟩ := range_at hr hk2 hg2 hl2 hcs
              have hld : (loadCells ⟨b2, f2, none⟩ (vs.take (Nat.min j i * z)).length).run P w = .ok (vs.take (Nat.min j i * z)).toArray w :=
               run_loadCells_list (P := P) w ⟨b2, f2, none⟩ _ (fun m v hv => by
                rw [Addr.add_mid]
                rw [List.getElem?_take] at hv
                split at hv
                · exact hra m v hv
                · cases hv)
              have hmin : Nat.min j i * z ≤ vs.length := by
               rw [hlen]
               exact Nat.mul_le_mul_right _ (Nat.min_le_left _ _)
              have hlen2 : (vs.take (Nat.min j i * z)).length = Nat.min j i * z := by rw [List.length_take]; omega
              rw [hlen2] at hld
              obtain ⟨g1, g2⟩ := eff_write (P := P) hr hk hg hl hov hre (hvs.take (Nat.min j i * z))
              refine ⟨E, _, .int .i64 (Nat.min j i : Nat), Pre.refl E, g2, rfl, .inl ?_⟩
              subst hv
              subst hv2
              have h1 : c.argTypes[0]? = some t := h0
              simp only [execOp, ho, resolve, hc, heq, invoke, builtin, Builtin.copy_, Sem.run_bind, Sem.run_pure, Result.andThen_ok, h1, List.getElem?_toArray, List.getElem?_cons_zero, List.getElem?_cons_succ, run_underlying (elem_ok hel), Builtin.lenOf, Builtin.firstCells, run_size hs, hld, goInt]
              simp only [g1, Result.andThen_ok, Sem.run_pure]
         · cases he
       · cases he
     · cases he
   · cases he
end
end Go.Ev
namespace Go.Ev
open Go Go.RowKit
variable [Sy]
section
variable {E : List Ent} {A : Fr} {n : Nat} {a : Act} {P : Program} {w0 : Base} {w w' : World} {h : Hp}
theorem Rep.same (hr : Rep w0 E h w) {k b c : Nat} {o : AO} (hk : E[k]? = some (.blk b c)) (ho : h.get k = some o) (hb : Kept w0 w') (hs : w.heap.size ≤ w'.heap.size)
  (hi : Is E c w'.heap[b]? o) (hm : ∀ j, j ≠ b → j < w.heap.size → w'.heap[j]? = w.heap[j]?) : Rep w0 E h w' where
 below := hb
 len := hr.len
 bound := hr.bound
 free := hr.free
 sep := hr.sep
 old := fun k o b c hn ho hk => ⟨(hr.old k o b c hn ho hk).1, Nat.lt_of_lt_of_le (hr.old k o b c hn ho hk).2 hs⟩
 obj := fun j q hj hq => by
  have h1 := hr.obj j q hj hq
  by_cases hjk : j = k
  · subst hjk
    rw [ho] at hq
    cases hq
    exact OK.of_is hk hi
  · cases q <;> first
    | (obtain ⟨b', c', hk', h2⟩ := h1
       refine ⟨b', c', hk', ?_⟩
       rw [hm b' (fun e => hjk (by subst e; exact hr.sep j k _ _ _ _ _ hj (lt_of_get hr hk) hq ho hk' hk)) (hr.old j _ b' c' hj hq hk').2]
       exact h2)
    | exact h1
theorem Rep.drew (hr : Rep w0 E h w) : Rep w0 E h w.drew := hr.move hr.below.drew (Nat.le_refl _) (fun _ _ _ _ _ _ _ => rfl)
theorem freeze_heap {b t : Nat} {cs : Array Value} {fr : Nat × Nat} (hb : w.heap[b]? = some (.cells cs t fr)) (o : Nat) : (w.freeze ⟨b, o, none⟩ 1).heap[b]? = some (.cells cs t (if fr.1 == fr.2 then (o, o + 1) else (min fr.1 o, max fr.2 (o + 1)))) := by
 obtain ⟨lo, hi⟩ := fr
 simp only [World.freeze, Nat.succ_ne_zero, if_neg, not_false_eq_true, Array.getElem?_modify, hb, Option.map_some, if_pos]
theorem freeze_other (w : World) (b o j : Nat) (hj : j ≠ b) : (w.freeze ⟨b, o, none⟩ 1).heap[j]? = w.heap[j]? := by
 simp only [World.freeze, Nat.succ_ne_zero, if_neg, not_false_eq_true, Array.getElem?_modify]
 rw [if_neg (fun e => hj e.symm)]
theorem freeze_size (w : World) (b o : Nat) : (w.freeze ⟨b, o, none⟩ 1).heap.size = w.heap.size := by
 simp [World.freeze]
theorem freeze_below {b o : Nat} (hb : ¬ w0.pr b) (h : Kept w0 w) : Kept w0 (w.freeze ⟨b, o, none⟩ 1) := by
 refine ⟨h.os, h.tape, h.output, by rw [freeze_size]; exact h.size, fun k hk => ?_⟩
 rw [freeze_other w b o k (fun e : k = b => hb (by rw [← e]; exact hk))]
 exact h.block k hk
theorem fr_frozen {t m : Nat} {fr : Nat × Nat} (h : FrOk t m fr) (ht : t = 5) : FrOk t m (if fr.1 == fr.2 then (m, m + 1) else (min fr.1 m, max fr.2 (m + 1))) := by
 split
 · exact .inl ⟨Nat.le_refl _, ht⟩
 · rename_i hne
   rcases h with h | h
   · exact .inl ⟨Nat.le_min.2 ⟨h.1, Nat.le_refl _⟩, ht⟩
   · subst h
     exact absurd rfl hne
theorem run_stringish {b t : Nat} {o : Nat} {cs : Array Value} {fr : Nat × Nat} (hb : w.heap[b]? = some (.cells cs t fr)) : (markStringish ⟨b, o, none⟩).run P w = .ok () (w.freeze ⟨b, cs.size, none⟩ 1) := by
 simp [markStringish, World.shape?, hb]
/-- The block of a name is frozen behind its end. -/
theorem eff_freeze (hr : Rep w0 E h w) {k b c o : Nat} {q : AO} {l : List A1} (hk : E[k]? = some (.blk b c)) (hq : h.get k = some q) (hl : rowOf q = some l) (h5 : byteO q = true) :
  ∃ w', (markStringish ⟨b, o, none⟩).run P w = .ok () w' ∧ Rep w0 E h w' ∧ Rep w0 E (h.put k q) w' := by
 obtain ⟨cs, t, fr, h1, h2, h3, h4⟩ := cells_of hr hk hq hl
 have hlt := hr.old k q b c (lt_of_get hr hk) hq hk
 have hi : Is E c (w.freeze ⟨b, cs.size, none⟩ 1).heap[b]? q := by
  rw [freeze_heap h1]
  have h1' := (hr.obj k q (lt_of_get hr hk) hq).is hk
  cases q with
  | cells t' m =>
   obtain ⟨cs0, fr0, k1, k2, k3⟩ := h1'
   rw [h1] at k1
   cases k1
   exact ⟨cs, _, rfl, fr_frozen h2 (Nat.eq_of_beq_eq_true h5), k3⟩
  | row t' z m =>
   obtain ⟨cs0, fr0, k1, k2, k3, k4, k5⟩ := h1'
   rw [h1] at k1
   cases k1
   exact ⟨cs, _, rfl, fr_frozen h2 (Nat.eq_of_beq_eq_true h5), k3, k4, k5⟩
  | map _ _ => cases hl
  | iter _ _ _ _ => cases hl
  | siter _ _ => cases hl
  | clo _ _ => cases hl
  | ifc _ _ => cases hl
  | y _ => cases hl
  | mapx _ => cases hl
 refine ⟨_, run_stringish h1, ?_, ?_⟩
 · exact hr.same hk hq (freeze_below hlt.1 hr.below) (by rw [freeze_size]; exact Nat.le_refl _) hi (fun j hj _ => freeze_other w b _ j hj)
 · exact hr.put hk hq (freeze_below hlt.1 hr.below) (by rw [freeze_size]; exact Nat.le_refl _) hi (fun j hj _ => freeze_other w b _ j hj)
/-- A new row at the memory's end, its capacity drawn. -/
theorem alloc_row (hr : Rep w0 E h w) {l : List A1} {news : List Value} {rest : Array Value} {e z m cap : Nat} (hn : h.n < 2 ^ D) (hl : All2 (V1 E) l news) (hlen : l.length = m * z) (hcap : m ≤ cap) (hmax : cap ≤ maxLen) (hrest : rest.size = (cap - m) * z) :
  Rep w0 (E ++ [.blk w.heap.size cap]) (h.new (.row e z l)) (w.drew.alloc (.cells (news.toArray ++ rest) e)) := by
 have h1 := hr.drew.alloc (ob := .cells (news.toArray ++ rest) e) (o := .row e z l) cap hn ⟨_, (0, 0), rfl, .inr rfl, ?_, hmax, ?_⟩
 · exact h1
 · have : news.length = m * z := by rw [← hl.length]; exact hlen
   simp only [Array.size_append, List.size_toArray, hrest, this, ← Nat.add_mul]
   congr 1
   omega
 · have : l.length = news.length := hl.length
   rw [Array.toList_append, List.toList_toArray, this, List.take_left]
   exact hl.imp (V1.ext (Ext.one E _))
theorem bytes_cells {l : List Nat} (hb : ∀ c ∈ l, c < 256) : (bytes l).data.map (fun b => Value.int .u8 b.toNat) = (l.map fun (c : Nat) => Value.int .u8 (c : Int)).toArray := by
 apply Array.ext'
 simp only [bytes, Array.toList_map, List.toList_toArray, List.map_map]
 apply List.map_congr_left
 intro c hc
 have := hb c hc
 simp only [Function.comp]
 congr 2
 simp
 omega
theorem all_bytes (l : List Nat) : All2 (V1 E) (l.map fun (c : Nat) => A1.i .u8 (c : Int)) (l.map fun (c : Nat) => Value.int .u8 (c : Int)) := by
 induction l with
 | nil => trivial
 | cons c l ih => exact ⟨rfl, ih⟩
theorem u8s_ok : ∀ {l : List A1} {vs : List Value} {m : List Nat}, All2 (V1 E) l vs → u8s l = some m → vs = m.map (fun (c : Nat) => Value.int .u8 (c : Int)) ∧ ∀ c ∈ m, c < 256 := by
 intro l
 induction l with
 | nil =>
  intro vs m h hm
  cases vs with
  | nil => cases hm; exact ⟨rfl, by simp⟩
  | cons _ _ => exact h.elim
 | cons x l ih =>
  intro vs m h hm
  cases vs with
  | nil => exact h.elim
  | cons v vs =>
   unfold u8s at hm
   split at hm
   · rename_i e; cases e
   · rename_i k l' e
     cases e
     cases hb : Nat.blt k 256 with
     | false => simp [hb] at hm
     | true =>
      cases hm' : u8s l with
      | none => simp [hb, hm'] at hm
      | some m' =>
       simp only [hb, hm', cond_true, Option.map_some, Option.some.injEq] at hm
       subst hm
       obtain ⟨h1, h2⟩ := ih h.2 hm'
       have hv : v = .int .u8 (Int.ofNat k) := h.1
       refine ⟨by rw [hv, h1]; rfl, fun c hc => ?_⟩
       rcases List.mem_cons.1 hc with rfl | hc
       · exact Nat.le_of_ble_eq_true hb
       · exact h2 c hc
   · cases hm
theorem run_toString (l : List Nat) : ∀ (acc : List Nat) (w : World), ((forIn (l.map fun (c : Nat) => Value.int .u8 (c : Int)).toArray (bytes acc) fun c s => match c with
   | .int .u8 n => pure (ForInStep.yield (s.push (UInt8.ofNat n.toNat)))
   | x => do
    stuck "bytesToString: byte expected"
    pure (ForInStep.yield s)) : Sem ByteArray).run P w = .ok (bytes (acc ++ l)) w := by
 induction l with
 | nil => intro acc w; simp
 | cons c l ih =>
  intro acc w
  have := ih (acc ++ [c]) w
  have hp : (bytes acc).push (UInt8.ofNat c) = bytes (acc ++ [c]) := by
   apply ByteArray.ext
   simp [bytes]
  simp only [List.map_cons, List.forIn_toArray, List.forIn_cons, Sem.run_bind, Sem.run_pure, Result.andThen_ok, Int.toNat_natCast, hp] at this ⊢
  rw [this, List.append_assoc]
  rfl

theorem run_newRow (e : TypeId) (cs : Array Value) (w : World) : (newRow e cs).run P w = .ok ⟨w.heap.size, 0, none⟩ (w.alloc (.cells cs e)) := rfl
theorem run_s2b {e cap : Nat} {l : List Nat} (hb : ∀ c ∈ l, c < 256) (hch : (choose (.appendCap l.length 0 e)).run P w = .ok cap w.drew)
  (g1 : (markStringish ⟨w.heap.size, 0, none⟩).run P (w.drew.alloc (.cells ((l.map fun (c : Nat) => Value.int .u8 (c : Int)).toArray ++ Array.replicate (cap - l.length) (.int .u8 0)) e)) = .ok () w') :
  (Conv.stringToBytes e (bytes l)).run P w = .ok (.slice (some ⟨w.heap.size, 0, none⟩) l.length cap) w' := by
 unfold Conv.stringToBytes
 rw [bytes_size, bytes_cells hb, Sem.run_bind, hch, Result.andThen_ok]
 simp only [Sem.run_bind, run_newRow, Result.andThen_ok]
 have e9 : w.drew.heap.size = w.heap.size := rfl
 rw [e9, g1]
 rfl
theorem turns_convM (ha : AR E A n a) (hr : Rep w0 E h w) {o : Oper} {s d : TypeId} {x : Operand} {p r : AV} {us : List U} (ho : o.op = .convert s d x) (hx : evA A x = some p) (he : evConvM P h s d p = some (r, us)) : Turns P w0 E a w o r (apU h us) := by
 have h1 := evA_ok ha x p hx
 unfold evConvM at he
 split at he
 · rename_i e l hs hd
   obtain ⟨hv, hb⟩ := VV.str h1
   split at he
   · rename_i hu
     split at he
     · rename_i hn
       cases he
       obtain ⟨hn, hlen, he5⟩ := hn
       have hsz := bytes_size l
       have hch0 : (choose (.appendCap l.length 0 e)).run P w = .ok (grownCap w l.length 0 e) w.drew := by
        rw [run_choose, if_neg (by simp [Question.forced])]
        rfl
       have hcap0 : l.length ≤ grownCap w l.length 0 e := grownCap_ge w _ _ _
       have hmax0 : grownCap w l.length 0 e ≤ maxLen := grownCap_le_maxLen w _ _ _ (by simp only [maxLen]; omega)
       obtain ⟨cap, hch, hcap, hmax⟩ : ∃ cap, (choose (.appendCap l.length 0 e)).run P w = .ok cap w.drew ∧ l.length ≤ cap ∧ cap ≤ maxLen := ⟨_, hch0, hcap0, hmax0⟩
       clear hch0 hcap0 hmax0
       have hrow := alloc_row hr (l := l.map fun (c : Nat) => A1.i .u8 (c : Int)) (news := l.map fun (c : Nat) => Value.int .u8 (c : Int)) (rest := Array.replicate (cap - l.length) (.int .u8 0)) (e := e) (z := 1) (m := l.length) (cap := cap) hn (all_bytes l) (by simp) hcap hmax (by simp)
       obtain ⟨w', g1, g2, _⟩ := eff_freeze (P := P) (o := 0) hrow (last_new hr _) (Tr.get_same D h.t h.n _) rfl (by show Nat.beq e 5 = true; rw [he5]; rfl)
       refine ⟨_, w', .slice (some ⟨w.heap.size, 0, none⟩) l.length cap, Pre.one E _, g2, ⟨w.heap.size, cap, last_new hr _, rfl, hcap⟩, .inl ?_⟩
       have hrun := run_s2b (P := P) hb hch g1
       simp only [execOp, ho, hv, convert, Sem.run_bind, Sem.run_pure, Result.andThen_ok, run_underlying hs, run_underlying hd, run_underlying hu, hrun]
     · cases he
   · cases he
 · rename_i e0 e k f m c hs hd
   obtain ⟨b, cc, hk, hv, hle⟩ := h1
   split at he
   · rename_i hsd
     split at he
     · rename_i q hu hg
       split at he
       · rename_i l hl h5
         cases he
         obtain ⟨w', g1, _, g2⟩ := eff_freeze (P := P) (o := f) hr hk hg hl h5
         refine ⟨E, w', _, Pre.refl E, g2, ⟨b, cc, hk, rfl, hle⟩, .inl ?_⟩
         have hsd' : (s == d) = true := by simp [hsd]
         simp only [execOp, ho, hv, convert, Sem.run_bind, Sem.run_pure, Result.andThen_ok, run_underlying hs, run_underlying hd, run_underlying hu, hsd', g1]
       · cases he
     · cases he
   · cases he
 · rename_i e k f m c hs hd
   obtain ⟨b, cc, hk, hv, hle⟩ := h1
   split at he
   · rename_i cs hu hcs
     cases hm : u8s cs with
     | none => simp [hm] at he
     | some l =>
      simp only [hm, Option.map_some, Option.some.injEq, Prod.mk.injEq] at he
      obtain ⟨rfl, rfl⟩ := he
      unfold cellsIn at hcs
      cases hg : h.get k with
      | none => simp [hg] at hcs
      | some q =>
       cases hl : rowOf q with
       | none => simp [hg, hl] at hcs
       | some l2 =>
        simp only [hg, hl, Option.bind_some] at hcs
        obtain ⟨vs, hvs, hlen, hra⟩ := range_at hr hk hg hl hcs
        obtain ⟨h2, h3⟩ := u8s_ok hvs hm
        have hld : (loadCells ⟨b, f, none⟩ vs.length).run P w = .ok vs.toArray w :=
         run_loadCells_list (P := P) w ⟨b, f, none⟩ vs (fun j v hv => by rw [Addr.add_mid]; exact hra j v hv)
        rw [hlen, Nat.mul_one, h2] at hld
        refine ⟨E, w, .string (bytes l), Pre.refl E, hr, ⟨rfl, h3⟩, .inl ?_⟩
        have hfor := run_toString (P := P) l [] w
        simp only [execOp, ho, hv, convert, Sem.run_bind, Sem.run_pure, Result.andThen_ok, run_underlying hs, run_underlying hd, run_underlying hu, Conv.bytesToString, hld]
        have e0 : (ByteArray.empty) = bytes [] := rfl
        rw [e0]
        exact congrArg (fun r => ((r : Result ByteArray).andThen (fun a w' => Result.ok (Value.string a) w')).andThen fun a w' => Result.ok (Next.value a) w') hfor
   · cases he
 · cases he
theorem run_b2s {o : Oper} {s d e : TypeId} {x : Operand} {b f m cp : Nat} {l : List Nat} (ho : o.op = .convert s d x) (hv : a.eval x = .slice (some ⟨b, f, none⟩) m cp) (hs : P.underlying s = some (.slice e)) (hd : P.underlying d = some .string) (hu : P.underlying e = some (.int .u8)) (hlen : m = l.length) (h3 : ∀ c ∈ l, c < 256)
  (hra : w.rangeAt b f (l.map fun (c : Nat) => Value.int .u8 (c : Int))) : (execOp a.eval o).run P w = .ok (.value (.string (bytes l))) w := by
 subst hlen
 have hld : (loadCells ⟨b, f, none⟩ (l.map fun (c : Nat) => Value.int .u8 (c : Int)).length).run P w = .ok (l.map fun (c : Nat) => Value.int .u8 (c : Int)).toArray w :=
  run_loadCells_list (P := P) w ⟨b, f, none⟩ _ (fun j v hv => by rw [Addr.add_mid]; exact hra j v hv)
 rw [List.length_map] at hld
 have hfor := run_toString (P := P) l [] w
 simp only [execOp, ho, hv, convert, Sem.run_bind, Sem.run_pure, Result.andThen_ok, run_underlying hs, run_underlying hd, run_underlying hu, Conv.bytesToString, hld]
 have e0 : (ByteArray.empty) = bytes [] := rfl
 rw [e0]
 exact congrArg (fun r => ((r : Result ByteArray).andThen (fun a w' => Result.ok (Value.string a) w')).andThen fun a w' => Result.ok (Next.value a) w') hfor
theorem turns_range (ha : AR E A n a) (hr : Rep w0 E h w) {o : Oper} {t : TypeId} {x : Operand} {p r : AV} {us : List U} (ho : o.op = .range t x) (hx : evA A x = some p) (he : evRange P h t p = some (r, us)) : Turns P w0 E a w o r (apU h us) := by
 have h1 := evA_ok ha x p hx
 unfold evRange at he
 split at he
 · rename_i hn
   split at he
   · rename_i l hu
     cases he
     obtain ⟨hv, hb⟩ := VV.str h1
     refine ⟨_, _, _, Pre.one E _, hr.alloc (ob := .stringIter (bytes l) 0) (o := .siter l 0) 0 hn rfl, ⟨w.heap.size, 0, last_new hr _, rfl⟩, .inl ?_⟩
     simp only [execOp, ho, hv, Instr.range, Sem.run_bind, Sem.run_pure, Result.andThen_ok, run_underlying hu, run_newObj]
     rfl
   · rename_i kt e k hu
     obtain ⟨b, c, hk, hv⟩ := h1
     split at he
     · rename_i es cl hg
       cases he
       obtain ⟨ms, hb, hme⟩ := map_of hr hk hg
       refine ⟨_, _, _, Pre.one E _, hr.alloc (ob := .mapIter (some b) cl #[] cl) (o := .iter k cl [] cl) 0 hn ⟨b, c, (Ext.one E _).blk hk, rfl⟩, ⟨w.heap.size, 0, last_new hr _, rfl⟩, .inl ?_⟩
       simp only [execOp, ho, hv, Instr.range, Sem.run_bind, Sem.run_pure, Result.andThen_ok, run_underlying hu, MapKept.run_getObj_map hb, run_newObj]
       rfl
     · cases he
   · cases he
 · cases he
theorem decode_ascii {l : List Nat} {p c : Nat} (hc : l[p]? = some c) (h : c < 128) : Utf8.decode (bytes l) p = (c, 1) := by
 have hlt : p < l.length := (List.getElem?_eq_some_iff.1 hc).1
 have hg : l[p] = c := (List.getElem?_eq_some_iff.1 hc).2
 have e1 : ((bytes l).get! (p + 0)).toNat = c := by
  have : (bytes l).get! (p + 0) = UInt8.ofNat c := by
   show ((l.map UInt8.ofNat).toArray)[p + 0]! = _
   simp [hlt, hg]
  rw [this]
  simp
  omega
 unfold Utf8.decode
 simp only [e1]
 rw [if_pos h]
theorem filter_ok {q : A1 × A2 × Nat → Bool} {q' : MapEntry → Bool} (hq : ∀ e m, ME E e m → q e = q' m) : ∀ {es : List (A1 × A2 × Nat)} {ms : List MapEntry}, All2 (ME E) es ms → All2 (ME E) (es.filter q) (ms.filter q') := by
 intro es
 induction es with
 | nil =>
  intro ms h
  cases ms with
  | nil => trivial
  | cons _ _ => exact h.elim
 | cons e es ih =>
  intro ms h
  cases ms with
  | nil => exact h.elim
  | cons m ms =>
   rw [List.filter_cons, List.filter_cons, hq e m h.1]
   split
   · exact ⟨h.1, ih h.2⟩
   · exact ih h.2
theorem all_ok {q : A1 × A2 × Nat → Bool} {q' : MapEntry → Bool} (hq : ∀ e m, ME E e m → q e = q' m) : ∀ {es : List (A1 × A2 × Nat)} {ms : List MapEntry}, All2 (ME E) es ms → es.all q = ms.all q' := by
 intro es
 induction es with
 | nil =>
  intro ms h
  cases ms with
  | nil => rfl
  | cons _ _ => exact h.elim
 | cons e es ih =>
  intro ms h
  cases ms with
  | nil => exact h.elim
  | cons m ms =>
   rw [List.all_cons, List.all_cons, hq e m h.1, ih h.2]
theorem turns_next (ha : AR E A n a) (hr : Rep w0 E h w) {o : Oper} {x : Operand} {s : Bool} {p r : AV} {us : List U} (ho : o.op = .next x s) (hx : evA A x = some p) (he : evNext h p s = some (r, us)) : Turns P w0 E a w o r (apU h us) := by
 have h1 := evA_ok ha x p hx
 unfold evNext at he
 split at he
 · rename_i k
   obtain ⟨b, c, hk, hv⟩ := h1
   split at he
   · rename_i l pos hg
     have hob : w.heap[b]? = some (.stringIter (bytes l) pos) := (hr.obj k _ (lt_of_get hr hk) hg).is hk
     split at he
     · rename_i ch hch
       split at he
       · rename_i hlt
         cases he
         have hlt2 : pos < l.length := (List.getElem?_eq_some_iff.1 hch).1
         obtain ⟨g1, g2⟩ := eff_set (P := P) hr hk hg hob (fun _ _ _ => by simp) (x' := .stringIter (bytes l) (pos + 1)) (q' := .siter l (pos + 1)) rfl
         refine ⟨E, _, .tuple #[.bool true, .int .i64 (pos : Nat), .int .i32 (ch : Nat)], Pre.refl E, g2, ⟨[.bool true, .int .i64 (pos : Nat), .int .i32 (ch : Nat)], ⟨rfl, rfl, rfl, trivial⟩, rfl⟩, .inl ?_⟩
         have hd := decode_ascii hch hlt
         have hlt3 : pos < (bytes l).size := by rw [bytes_size]; exact hlt2
         simp only [execOp, ho, hv, Instr.next, getObj, Sem.run_bind, Sem.run, hob, Result.andThen_ok, if_pos hlt3, hd, g1, goInt, Sem.run_pure]
       · cases he
     · rename_i hch
       cases he
       have hge : ¬ pos < (bytes l).size := by
        rw [bytes_size]
        have := List.getElem?_eq_none_iff.1 hch
        omega
       refine ⟨E, w, .tuple #[.bool false], Pre.refl E, hr, ⟨[.bool false], ⟨rfl, trivial⟩, rfl⟩, .inl ?_⟩
       simp only [execOp, ho, hv, Instr.next, getObj, Sem.run_bind, Sem.run, hob, Result.andThen_ok, if_neg hge, Sem.run_pure]
   · cases he
 · rename_i k
   obtain ⟨b, c, hk, hv⟩ := h1
   split at he
   · rename_i m since seen last hg
     obtain ⟨b', c', hk', hob⟩ := (hr.obj k _ (lt_of_get hr hk) hg).is hk
     split at he
     · rename_i es cl hg'
       obtain ⟨ms, hmb, hme⟩ := map_of hr hk' hg'
       simp only at he
       split at he
       · cases he
       · rename_i hguard
         have hg2 : (!seen.toArray.isEmpty && !ms.isEmpty && ms.all (·.born ≥ last)) = false := by
          have e1 : seen.toArray.isEmpty = seen.isEmpty := by cases seen <;> simp
          have aux : ∀ (l : List MapEntry), All2 (ME E) es l → l.isEmpty = es.isEmpty := by
           intro l hl
           clear hg' hme he hguard
           cases es <;> cases l <;> first | rfl | exact hl.elim
          have e2 : ms.isEmpty = es.isEmpty := by
           rw [← Array.isEmpty_toList]
           exact aux _ hme
          have e3 : ms.all (fun x => decide (x.born ≥ last)) = es.all (fun e => decide (e.2.2 ≥ last)) := by
           rw [← Array.all_toList]
           exact (all_ok (fun e m hem => by rw [hem.2.2]) hme).symm
          rw [e1, e2, e3]
          simpa using hguard
         have hleft := filter_ok (E := E) (q := fun e => !seen.contains e.2.2) (q' := fun e => !seen.toArray.contains e.born) (fun e m hem => by rw [hem.2.2]; simp) hme
         have hold := filter_ok (E := E) (q := fun e => decide (e.2.2 < since)) (q' := fun e => decide (e.born < since)) (fun e m hem => by rw [hem.2.2]) hleft
         have hnew := filter_ok (E := E) (q := fun e => decide (e.2.2 ≥ since)) (q' := fun e => decide (e.born ≥ since)) (fun e m hem => by rw [hem.2.2]) hleft
         generalize hL : ms.filter (fun e => !seen.toArray.contains e.born) = L
         have hL2 : ms.toList.filter (fun e => !seen.toArray.contains e.born) = L.toList := by rw [← hL, Array.toList_filter]
         rw [hL2] at hold hnew
         have ho2 : (L.filter (fun e => decide (e.born < since))).toList = L.toList.filter (fun e => decide (e.born < since)) := by rw [Array.toList_filter]
         have hn2 : (L.filter (fun e => decide (e.born ≥ since))).toList = L.toList.filter (fun e => decide (e.born ≥ since)) := by rw [Array.toList_filter]
         rw [← ho2] at hold
         rw [← hn2] at hnew
         generalize hO : L.filter (fun e => decide (e.born < since)) = O at hold
         generalize hN : L.filter (fun e => decide (e.born ≥ since)) = N at hnew
         split at he
         · rename_i q1 q2
           cases he
           rw [q1] at hold
           rw [q2] at hnew
           have eO : O = #[] := Array.ext' (List.eq_nil_of_length_eq_zero hold.length.symm)
           have eN : N = #[] := Array.ext' (List.eq_nil_of_length_eq_zero hnew.length.symm)
           refine ⟨E, w, .tuple #[.bool false], Pre.refl E, hr, ⟨[.bool false], ⟨rfl, trivial⟩, rfl⟩, .inl ?_⟩
           simp only [execOp, ho, hv, Instr.next, getObj, Sem.run_bind, Sem.run, hob, hmb, Result.andThen_ok, hg2, hL, hO, hN, eO, eN, Bool.false_eq_true, if_false]
           simp [choose, Sem.run, Question.forced]
         · rename_i e q1 q2
           cases he
           rw [q1] at hold
           rw [q2] at hnew
           have eN : N = #[] := Array.ext' (List.eq_nil_of_length_eq_zero hnew.length.symm)
           cases hOl : O.toList with
           | nil => rw [hOl] at hold; exact hold.elim
           | cons me t =>
            rw [hOl] at hold
            cases t with
            | cons _ _ => exact hold.2.elim
            | nil =>
             have eO : O = #[me] := Array.ext' hOl
             have hm := hold.1
             obtain ⟨g1, g2⟩ := eff_set (P := P) hr hk hg hob (fun _ _ _ => by simp) (x' := .mapIter (some b') since (seen ++ [me.born]).toArray cl) (q' := .iter m since (seen ++ [e.2.2]) cl) ⟨b', c', hk', by rw [hm.2.2]⟩
             refine ⟨E, _, .tuple #[.bool true, me.key, me.val], Pre.refl E, g2, ⟨[.bool true, me.key, me.val], ⟨rfl, hm.1, hm.2.1, trivial⟩, rfl⟩, .inl ?_⟩
             simp only [execOp, ho, hv, Instr.next, getObj, Sem.run_bind, Sem.run, hob, hmb, Result.andThen_ok, hg2, hL, hO, hN, eO, eN, Bool.false_eq_true, if_false]
             simp [choose, Sem.run, Question.forced, g1]
         · cases he
     · cases he
   · cases he
 · cases he
end
end Go.Ev
namespace Go.Ev
open Go Go.RowKit
variable [Sy]
section
variable {E : List Ent} {A : Fr} {n : Nat} {a : Act} {P : Program} {w0 : Base} {w w' : World} {h : Hp}
theorem mkRow_ok {e z m : Nat} {l : List A1} {us : List U} {r : AV} {us' : List U} (he : mkRow P h e z l m us = some (r, us')) : ∃ i v b, P.info? e = some i ∧ i.zero = some v ∧ v.cells.size = z ∧ i.bytes = b ∧ h.n < 2 ^ D ∧ m * b ≤ 140737488355328 ∧ m ≤ 1000000 ∧ l.length = m * z ∧ r = .v (.one (.sl h.n 0 m (.un 0))) ∧ us' = us ++ [.new (.row e z l)] := by
 unfold mkRow at he
 split at he
 · rename_i zz b hz hb
   split at he
   · rename_i hc
     obtain ⟨c1, c2, c3, c4, c5⟩ := hc
     cases he
     obtain ⟨i, v, h1, h2, h3⟩ := info_of (E := []) hz
     have hby := bytes_of h1 hb
     have hcells := V2.cells h3
     exact ⟨i, v, b, h1, h2, by rw [← Array.length_toList, ← hcells.length]; exact c2, hby, c1, c3, c4, c5, rfl, rfl⟩
   · cases he
 · cases he
theorem cells_in (hr : Rep w0 E h w) {k o m : Nat} {c : CapE} {z : Nat} {cs : List A1} {v : Value} (hv : VV E (.v (.one (.sl k o m c))) v) (hc : cellsIn h z (.v (.one (.sl k o m c))) = some cs) :
  ∃ b cc vs, E[k]? = some (.blk b cc) ∧ v = .slice (some ⟨b, o, none⟩) m (capOf cc c) ∧ All2 (V1 E) cs vs ∧ vs.length = m * z ∧ ∀ j u, vs[j]? = some u → w.cell? ((⟨b, o, none⟩ : Addr).add j) = some u := by
 obtain ⟨b, cc, hk, hv, _⟩ := hv
 unfold cellsIn at hc
 cases hg : h.get k with
 | none => simp [hg] at hc
 | some q =>
  cases hl : rowOf q with
  | none => simp [hg, hl] at hc
  | some l =>
   simp only [hg, hl, Option.bind_some] at hc
   obtain ⟨vs, hvs, hlen, hra⟩ := range_at hr hk hg hl hc
   exact ⟨b, cc, vs, hk, hv, hvs, hlen, fun j u hj => by rw [Addr.add_mid]; exact hra j u hj⟩
theorem store_run {b t o : Nat} {vs : Array Value} {fr : Nat × Nat} {us : List Value} (h1 : w.heap[b]? = some (.cells vs t fr)) (h2 : FrOk t vs.size fr) (h3 : o + us.length ≤ vs.size) (h4 : ∀ v ∈ us, v.oneCell' = true) : (storeCells ⟨b, o, none⟩ us).run P w = .ok () (w.setCells b o us) := by
 have := run_storeCells_cells (P := P) b o us 0 w (fun j hj => ?_) (fun j hj => ?_) h4
 · simpa using this
 · rw [cell_eq h1]
   simp
   omega
 · have hle : o + 0 + j < vs.size := by omega
   simp only [World.frozen?, h1]
   rcases h2 with h2 | h2
   · have : ¬ fr.1 ≤ o + 0 + j := by omega
     simp [this]
     intro h9
     omega
   · subst h2
     simp
theorem run_append_in {t ty e : TypeId} {i : TypeInfo} (ht : P.underlying t = some (.slice e)) (hi : P.info? e = some i)
    {g sLen sCap : Nat} {cur : Array Value} {tt : TypeId} {fr : Nat × Nat} (hg : w.heap[g]? = some (.cells cur tt fr)) (hfr : FrOk tt cur.size fr)
    {ad : Addr} {m c : Nat} {news : List Value} (hl : news.length = m * i.size) (hnews : ∀ j u, news[j]? = some u → w.cell? (ad.add j) = some u) (h1 : ∀ u ∈ news, u.oneCell' = true)
    (hroom : sLen + m ≤ sCap) (hfit : sLen * i.size + news.length ≤ cur.size) :
    (Builtin.append_ #[t, t] ty #[.slice (some ⟨g, 0, none⟩) sLen sCap, .slice (some ad) m c]).run P w =
      .ok (.slice (some ⟨g, 0, none⟩) (sLen + m) sCap) (w.setCells g (sLen * i.size) news) := by
 have hf := run_firstCells_some (P := P) w i.size m ad m c news hl hnews
 have hst := store_run (P := P) hg hfr hfit h1
 simp [Builtin.append_, run_underlying ht, sizeOf, typeInfo, hi, Builtin.lenOf, hroom, hf, Addr.add_lit, hst]
theorem turns_append (ha : AR E A n a) (hr : Rep w0 E h w) {o : Oper} {c : Call} {x y r : AV} {t u : TypeId} {us : List U} (ho : o.op = .call c) (hc : c.callee = .builtin .append) (hx : allSome (evA A) c.args.toList = some [x, y]) (ht : c.argTypes.toList = [t, u])
  (he : evAppend P h t u x y = some (r, us)) : Turns P w0 E a w o r (apU h us) := by
 obtain ⟨v, vx, hv, hvx, heq⟩ := args2 ha hx
 unfold evAppend at he
 split at he
 · rename_i htu
   subst htu
   have hty : c.argTypes = #[t, t] := Array.ext' ht
   have hgo : ∀ (v' : Value) (w' : World), (Builtin.append_ #[t, t] o.type #[v, vx]).run P w = .ok v' w' → (execOp a.eval o).run P w = .ok (.value v') w' := by
    intro v' w' hrun
    simp only [execOp, ho, resolve, hc, heq, hty, invoke, builtin, Sem.run_bind, Sem.run_pure, Result.andThen_ok, hrun]
   split at he
   · rename_i e k2 f2 m c2 hel
     have hu := elem_ok hel
     split at he
     · rename_i z hs
       split at he
       · cases he
       · rename_i cs hcs
         obtain ⟨b2, cc2, news, hk2, hv2, hnv, hnl, hnews⟩ := cells_in hr hvx hcs
         split at he
         · -- nil
           have hv : v = .slice none 0 0 := hv
           split at he
           · cases he
           · rename_i hm
             obtain ⟨i, zv, b, h1, h2, h3, h4, h5, h6, h7, h8, rfl, rfl⟩ := mkRow_ok he
             have hsz := size_of h1 hs
             have hrun := run_append_nil (P := P) w t o.type e i zv hu h1 h2 ⟨b2, f2, none⟩ m (capOf cc2 c2) news (by rw [hsz]; exact hnl) hnews (by omega) (by omega) (by rw [h4]; omega)
             have hcap : m ≤ grownCap w m 0 e := grownCap_ge w _ _ _
             have hmax : grownCap w m 0 e ≤ maxLen := grownCap_le_maxLen w _ _ _ (by simp only [maxLen]; omega)
             refine ⟨_, _, _, Pre.one E _, alloc_row hr (rest := Builtin.zeroCells zv.cells (grownCap w m 0 e - m)) (e := e) (z := z) (m := m) (cap := grownCap w m 0 e) h5 hnv h8 hcap hmax (by rw [size_zeroCells, h3]), ⟨w.heap.size, _, last_new hr _, rfl, hcap⟩, .inl (hgo _ _ ?_)⟩
             rw [hv, hv2, hrun]
             rfl
         · -- grown
           rename_i k f m1 cap
           split at he
           · cases he
           · rename_i hgt
             split at he
             · rename_i old hold
               obtain ⟨i, zv, b, h1, h2, h3, h4, h5, h6, h7, h8, rfl, rfl⟩ := mkRow_ok he
               obtain ⟨b1, cc1, olds, hk1, hv1, hov, hol, holds⟩ := cells_in hr hv hold
               have hsz := size_of h1 hs
               have hv1 : v = .slice (some ⟨b1, f, none⟩) m1 cap := hv1
               have hrun := run_append_grow (P := P) w t o.type e i zv hu h1 h2 ⟨b1, f, none⟩ m1 cap olds (by rw [hsz]; exact hol) holds ⟨b2, f2, none⟩ m (capOf cc2 c2) news (by rw [hsz]; exact hnl) hnews (by omega) (by omega) (growslice_fits (by omega) (by rw [h4]; exact h6))
               have hcap : m1 + m ≤ grownCap w (m1 + m) cap e := grownCap_ge w _ _ _
               have hmax : grownCap w (m1 + m) cap e ≤ maxLen := grownCap_le_maxLen w _ _ _ (by simp only [maxLen]; omega)
               refine ⟨_, _, _, Pre.one E _, alloc_row hr (news := olds ++ news) (rest := Builtin.zeroCells zv.cells (grownCap w (m1 + m) cap e - (m1 + m))) (e := e) (z := z) (m := m1 + m) (cap := grownCap w (m1 + m) cap e) h5 (hov.append hnv) h8 hcap hmax (by rw [size_zeroCells, h3]), ⟨w.heap.size, _, last_new hr _, rfl, hcap⟩, .inl (hgo _ _ ?_)⟩
               rw [hv1, hv2, hrun]
               congr 3
               apply Array.ext'
               simp
             · cases he
         · -- a row of its own
           rename_i k m1
           split at he
           · cases he
           · rename_i hm
             split at he
             · rename_i t' z l hg
               split at he
               · rename_i hcond
                 obtain ⟨e1, e2, e3⟩ := hcond
                 subst e1
                 subst e2
                 obtain ⟨i, zv, b, h1, h2, h3, h4, h5, h6, h7, h8, rfl, rfl⟩ := mkRow_ok he
                 obtain ⟨b1, cap, hk1, hv1, hle1⟩ := hv
                 have hv1 : v = .slice (some ⟨b1, 0, none⟩) m1 (cap - 0) := hv1
                 rw [Nat.sub_zero] at hv1
                 have hle1 : m1 ≤ cap := by simp only [capOf] at hle1; omega
                 have hsz := size_of h1 hs
                 obtain ⟨cur, fr, g1, g2, g3, g4, g5⟩ := (hr.obj k _ (lt_of_get hr hk1) hg).is hk1
                 have hlen : l.length ≤ cur.size := by
                  have := g5.length
                  rw [List.length_take] at this
                  have h9 : cur.toList.length = cur.size := Array.length_toList
                  omega
                 have hnl2 : cs.length = news.length := hnv.length
                 have hlt : (l.take (m1 * z)).length = m1 * z := by rw [List.length_take]; omega
                 have hold := g5.take (m1 * z)
                 have htt : (cur.toList.take l.length).take (m1 * z) = cur.toList.take (m1 * z) := by rw [List.take_take, Nat.min_eq_left e3]
                 rw [htt] at hold
                 have hlt2 : (cur.toList.take (m1 * z)).length = m1 * z := by rw [← hold.length]; exact hlt
                 by_cases hroom : m1 + m ≤ cap
                 · -- in place
                   have hfit : m1 * z + news.length ≤ cur.size := by
                    rw [hnl, g3, ← Nat.add_mul]
                    exact Nat.mul_le_mul_right _ hroom
                   have hrun := run_append_in (P := P) (ty := o.type) hu h1 g1 g2 (ad := ⟨b2, f2, none⟩) (c := capOf cc2 c2) (m := m) (news := news) (by rw [hsz]; exact hnl) hnews (fun v hv => by
                     obtain ⟨x, _, hx⟩ := hnv.mem v hv
                     exact V1.oneCell x v hx) hroom (by rw [hsz]; exact hfit)
                   rw [hsz] at hrun
                   obtain ⟨cur', k1, k2, k3⟩ := setCells_row news (m1 * z) w cur g1 hfit
                   have hkn := lt_of_get hr hk1
                   have hlt3 := hr.old k _ b1 cap (lt_of_get hr hk1) hg hk1
                   have hdel := hr.del hkn
                   have live : ∀ j q, j < (h.del k).n → (h.del k).get j = some q → j ≠ k ∧ h.get j = some q := by
                    intro j q hj hq
                    have hjk : j ≠ k := by
                     intro e
                     subst e
                     have : (h.del j).get j = none := Tr.get_same D h.t j none
                     rw [this] at hq
                     cases hq
                    refine ⟨hjk, ?_⟩
                    have : (h.del k).get j = h.get j := Tr.get_other D h.t k j _ (Nat.lt_of_lt_of_le hkn hr.bound) (Nat.lt_of_lt_of_le hj hr.bound) hjk
                    rwa [this] at hq
                   have hmv : Rep w0 E (h.del k) (w.setCells b1 (m1 * z) news) := hdel.move (below_setCells hlt3.1 news _ w hr.below) (by rw [setCells_size]; exact Nat.le_refl _) (fun j q b' c' hj hq hb' => by
                    obtain ⟨hjk, hq'⟩ := live j q hj hq
                    refine setCells_far b1 news _ w b' (fun e9 => ?_)
                    subst e9
                    exact hjk (hr.sep j k _ _ _ _ _ hj hkn hq' hg hb' hk1))
                   have hnew : (E ++ [Ent.blk b1 cap])[h.n]? = some (.blk b1 cap) := last_new hr _
                   have hrep := hmv.grow (e := .blk b1 cap) (o := .row t' z (l.take (m1 * z) ++ cs)) h5 ?_ ?_
                   · refine ⟨_, _, _, Pre.one E _, hrep, ⟨b1, cap, hnew, rfl, by simp only [capOf]; omega⟩, .inl (hgo _ _ ?_)⟩
                     rw [hv1, hv2, hrun]
                     rfl
                   · refine OK.of_is hnew ?_
                     rw [k1]
                     refine ⟨cur', fr, rfl, by rw [k2]; exact g2, by rw [k2]; exact g3, g4, ?_⟩
                     have e5 : cur'.toList.take (l.take (m1 * z) ++ cs).length = cur.toList.take (m1 * z) ++ news := by
                      rw [k3, List.length_append, hlt, hnl2]
                      unfold overV
                      rw [List.take_append_of_le_length (by rw [List.length_append, hlt2]; exact Nat.le_refl _), List.take_of_length_le (by rw [List.length_append, hlt2]; exact Nat.le_refl _)]
                     rw [e5]
                     exact (hold.append hnv).imp (V1.ext (Ext.one E _))
                   · intro b' c' hbc
                     injection hbc with e6 e7
                     subst e6
                     refine ⟨hlt3.1, by rw [setCells_size]; exact hlt3.2, fun j q c9 hj hq hb' => ?_⟩
                     obtain ⟨hjk, hq'⟩ := live j q hj hq
                     exact hjk (hr.sep j k _ _ _ _ _ hj hkn hq' hg hb' hk1)
                 · -- moved
                   have holds : ∀ j u, (cur.toList.take (m1 * z))[j]? = some u → w.cell? ((⟨b1, 0, none⟩ : Addr).add j) = some u := by
                    intro j u hj
                    rw [Addr.add_mid, cell_eq g1, Nat.zero_add, ← Array.getElem?_toList]
                    rw [List.getElem?_take] at hj
                    split at hj
                    · exact hj
                    · cases hj
                   have hrun := run_append_grow (P := P) w t o.type t' i zv hu h1 h2 ⟨b1, 0, none⟩ m1 cap (cur.toList.take (m1 * z)) (by rw [hsz]; exact hlt2) holds ⟨b2, f2, none⟩ m (capOf cc2 c2) news (by rw [hsz]; exact hnl) hnews (by omega) (by omega) (growslice_fits (by omega) (by rw [h4]; exact h6))
                   have hcap : m1 + m ≤ grownCap w (m1 + m) cap t' := grownCap_ge w _ _ _
                   have hmax : grownCap w (m1 + m) cap t' ≤ maxLen := grownCap_le_maxLen w _ _ _ (by simp only [maxLen]; omega)
                   refine ⟨_, _, _, Pre.one E _, alloc_row (hr.del (lt_of_get hr hk1)) (news := cur.toList.take (m1 * z) ++ news) (rest := Builtin.zeroCells zv.cells (grownCap w (m1 + m) cap t' - (m1 + m))) (e := t') (z := z) (m := m1 + m) (cap := grownCap w (m1 + m) cap t') h5 (hold.append hnv) h8 hcap hmax (by rw [size_zeroCells, h3]), ⟨w.heap.size, _, last_new hr _, rfl, hcap⟩, .inl (hgo _ _ ?_)⟩
                   rw [hv1, hv2, hrun]
                   congr 3
                   apply Array.ext'
                   simp
               · cases he
             · cases he
         · cases he
     · cases he
   · cases he
 · cases he

theorem evEff_ok (ha : AR E A n a) (hr : Rep w0 E h w) {o : Oper} {r : AV} {us : List U} (he : evEff P A h o = some (r, us)) : Turns P w0 E a w o r (apU h us) := by
 unfold evEff at he
 split at he
 · rename_i e ho
   split at he
   · rename_i z hz
     split at he
     · exact turns_alloc ha hr ho hz he
     · cases he
   · cases he
 · rename_i e x ho
   split at he
   · rename_i v hx
     exact turns_box ha hr ho hx he
   · cases he
 · rename_i t m ps ho
   split at he
   · rename_i qs hq
     exact turns_buildSlice ha hr ho hq he
   · cases he
 · rename_i t x y ho
   cases hx : evA A x with
   | none => simp [hx] at he
   | some p =>
    cases hy : evA A y with
    | none => simp [hx, hy] at he
    | some q =>
     simp only [hx, hy, Option.bind_some] at he
     cases hs : evStore P t p q h with
     | none => simp [hs] at he
     | some us' =>
      simp only [hs, Option.map_some, Option.some.injEq, Prod.mk.injEq] at he
      obtain ⟨rfl, rfl⟩ := he
      exact turns_store ha hr ho hx hy hs
 · rename_i s d x ho
   cases hx : evA A x with
   | none => simp [hx] at he
   | some p =>
    simp only [hx, Option.bind_some] at he
    exact turns_convM ha hr ho hx he
 · rename_i f first caps ho
   split at he
   · rename_i hc
     split at he
     · rename_i vs hv
       cases hw : allSome asV2 vs with
       | none => simp [hw] at he
       | some ws =>
        simp only [hw, Option.map_some, Option.some.injEq, Prod.mk.injEq] at he
        obtain ⟨rfl, rfl⟩ := he
        exact turns_makeFunc ha hr ho hc.1 hc.2.1 hc.2.2 hv hw
     · cases he
   · split at he
     · rename_i hc
       split at he
       · rename_i vs hv
         cases hw : allSome asV2 vs with
         | none => simp [hw] at he
         | some ws =>
          simp only [hw, Option.map_some, Option.some.injEq, Prod.mk.injEq] at he
          obtain ⟨rfl, rfl⟩ := he
          exact turns_makeBound ha hr ho hc.1 hc.2.1 hc.2.2 hv hw
       · cases he
     · cases he
 · rename_i t ho
   split at he
   · rename_i hn
     cases he
     exact turns_makeMap ha hr ho hn
   · cases he
 · rename_i t x y ho
   cases hx : evA A x with
   | none => simp [hx] at he
   | some p =>
    cases hy : evA A y with
    | none => simp [hx, hy] at he
    | some q =>
     simp only [hx, hy, Option.bind_some] at he
     exact turns_makeSlice ha hr ho hx hy he
 · rename_i t x ho
   cases hx : evA A x with
   | none => simp [hx] at he
   | some p =>
    simp only [hx, Option.bind_some] at he
    exact turns_makeIface ha hr ho hx he
 · rename_i t m k x ho
   cases hm : evA A m with
   | none => simp [hm] at he
   | some p =>
    cases hk : evA A k with
    | none => simp [hm, hk] at he
    | some q =>
     cases hx : evA A x with
     | none => simp [hm, hk, hx] at he
     | some s =>
      simp only [hm, hk, hx, Option.bind_some] at he
      cases hs : evMapUpdate P h t p q s with
      | none => simp [hs] at he
      | some us' =>
       simp only [hs, Option.map_some, Option.some.injEq, Prod.mk.injEq] at he
       obtain ⟨rfl, rfl⟩ := he
       exact turns_mapUpdate ha hr (.inl ho) hm hk hx hs
 · rename_i t m k x ho
   cases hm : evA A m with
   | none => simp [hm] at he
   | some p =>
    cases hk : evA A k with
    | none => simp [hm, hk] at he
    | some q =>
     cases hx : evA A x with
     | none => simp [hm, hk, hx] at he
     | some s =>
      simp only [hm, hk, hx, Option.bind_some] at he
      cases hs : evMapUpdate P h t p q s with
      | none => simp [hs] at he
      | some us' =>
       simp only [hs, Option.map_some, Option.some.injEq, Prod.mk.injEq] at he
       obtain ⟨rfl, rfl⟩ := he
       exact turns_mapUpdate ha hr (.inr ho) hm hk hx hs
 · rename_i t x ho
   cases hx : evA A x with
   | none => simp [hx] at he
   | some p =>
    simp only [hx, Option.bind_some] at he
    exact turns_range ha hr ho hx he
 · rename_i x s ho
   cases hx : evA A x with
   | none => simp [hx] at he
   | some p =>
    simp only [hx, Option.bind_some] at he
    exact turns_next ha hr ho hx he
 · rename_i c ho
   split at he
   · rename_i s x t u hc hx ht
     exact turns_append ha hr ho hc hx ht he
   · rename_i d x t tl hc hx ht
     exact turns_copy ha hr ho hc hx ht he
   · rename_i x t tl hc hx ht
     cases hs : evClear P h t x with
     | none => simp [hs] at he
     | some us' =>
      simp only [hs, Option.map_some, Option.some.injEq, Prod.mk.injEq] at he
      obtain ⟨rfl, rfl⟩ := he
      exact turns_clear ha hr ho hc hx ht hs
   · rename_i x k t tl hc hx ht
     cases hs : evDelete P h t x k with
     | none => simp [hs] at he
     | some us' =>
      simp only [hs, Option.map_some, Option.some.injEq, Prod.mk.injEq] at he
      obtain ⟨rfl, rfl⟩ := he
      exact turns_delete ha hr ho hc hx ht hs
   · cases he
 · cases he
end
end Go.Ev
