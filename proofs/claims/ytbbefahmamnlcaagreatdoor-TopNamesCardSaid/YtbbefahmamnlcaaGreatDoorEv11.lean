/- The reckoner is right: what turns memory, second part. -/
import Derived.Test.YtbbefahmamnlcaaGreatDoorEv10
set_option linter.unusedVariables false
set_option linter.unusedSimpArgs false
set_option linter.unusedSectionVars false
namespace Go.Ev
open Go Go.RowKit
section
variable {E : List Ent} {A : Fr} {n : Nat} {a : Act} {P : Program} {w0 w : World} {h : Hp}
theorem turns_buildSlice (ha : AR E A n a) (hr : Rep w0 E h w) {o : Oper} {t : TypeId} {m : Nat} {ps : Array (Nat × Operand)} {qs : List (Nat × AV)} {r : AV} {us : List U} (ho : o.op = .buildSlice t m ps) (hq : allSome (fun p => (evA A p.2).map fun v => (p.1, v)) ps.toList = some qs) (he : evBuildSlice P h t m qs = some (r, us)) : Turns P w0 E a w o r (apU h us) := by
 unfold evBuildSlice at he
 split at he
 · rename_i e zs hel hzs
   have hp := parts_ok ha hq hzs
   split at he
   · rename_i z zz hs hz
     split at he
     · rename_i hc
       obtain ⟨c1, c2, c3⟩ := hc
       split at he
       · rename_i l hf
         cases he
         obtain ⟨v, hv, hzr⟩ := zero_ok (E := E) hz
         have hcells := V2.cells hv
         have hvs : v.cells.size = z := by rw [← Array.length_toList, ← hcells.length]; exact c1
         have hrow : All2 (V1 E) (zeros zz.cells m) (madeCells v.cells (m * z)).toList := by
          rw [← hvs, made_list]
          exact zeros_ok hcells _
         obtain ⟨cs, hcs, hl⟩ := fill_ok zs _ _ l _ hp hrow hf
         refine ⟨_, _, _, Pre.one E _, alloc_cells hr 0 c3 (cs := cs) (t := e) hl, ⟨w.heap.size, 0, last_new hr _, rfl, Nat.le_refl _⟩, .inl ?_⟩
         have hno : ¬ (m * z > 2 ^ 24) := by omega
         have hcs' : Instr.fill (fun i => some (i * z, z)) (madeCells v.cells (m * z)) (ps.map fun x => (x.1, a.eval x.2)).toList = some cs := hcs
         by_cases h0 : m * z = 0
         · have e3 : (Array.range (m * z)).map (fun x => (#[] : Array Value)[x % (#[] : Array Value).size]!) = madeCells v.cells (m * z) := by rw [h0]; simp [madeCells, Array.range_zero']
           simp only [execOp, ho, Instr.buildSlice, Sem.run_bind, run_underlying (elem_ok hel), run_size hs, Result.andThen_ok, if_neg hno, if_pos h0, Sem.run_pure, e3, hcs', newRow, run_newObj]
           rfl
         · have e3 : (Array.range (m * z)).map (fun x => v.cells[x % v.cells.size]!) = madeCells v.cells (m * z) := rfl
           simp only [execOp, ho, Instr.buildSlice, Sem.run_bind, run_underlying (elem_ok hel), run_size hs, Result.andThen_ok, if_neg hno, if_neg h0, hzr, Sem.run_pure, e3, hcs', newRow, run_newObj]
           rfl
       · cases he
     · cases he
   · cases he
 · cases he
theorem turns_makeFunc (ha : AR E A n a) (hr : Rep w0 E h w) {o : Oper} {f : FuncId} {first caps : Array Operand} {vs : List AV} {ws : List A2} (ho : o.op = .makeFunc (.func f) first caps) (hf : first.size = 0) (hn : h.n < 2 ^ D) (hv : allSome (evA A) caps.toList = some vs) (hw : allSome asV2 vs = some ws) :
  Turns P w0 E a w o (.v (.one (.clo h.n))) (apU h [.new (.clo f ws)]) := by
 have h1 := args_ok ha hv
 have h2 : All2 (V2 E) ws (caps.toList.map a.eval) := by
  clear hv ho
  generalize caps.toList.map a.eval = us at h1
  induction vs generalizing ws us with
  | nil =>
   cases us with
   | nil => cases hw; trivial
   | cons _ _ => exact h1.elim
  | cons x vs ih =>
   cases us with
   | nil => exact h1.elim
   | cons u us =>
    unfold allSome at hw
    cases hx : asV2 x with
    | none => simp [hx] at hw
    | some y =>
     cases hy : allSome asV2 vs with
     | none => simp [hx, hy] at hw
     | some ws' =>
      simp only [hx, hy, Option.some.injEq] at hw
      subst hw
      refine ⟨?_, ih hy _ h1.2⟩
      cases x with
      | v z => cases hx; exact h1.1
      | tup l => cases hx
 have e1 : first = #[] := Array.size_eq_zero_iff.1 hf
 subst e1
 have e2 : caps.map a.eval = (caps.toList.map a.eval).toArray := Array.ext' (by rw [Array.toList_map])
 refine ⟨E ++ [.clo (.func (.func f) #[] (caps.map a.eval))], w, .func (.func f) #[] (caps.map a.eval), Pre.one E _, hr.grow hn ⟨caps.toList.map a.eval, ?_, h2.imp (V2.ext (Ext.one E _))⟩ (fun b c e => by cases e), ⟨last_new hr _, _, _, rfl⟩, .inl ?_⟩
 · rw [last_new hr, e2]
 · have e3 : (#[] : Array Operand).map a.eval = #[] := by simp
   simp only [execOp, ho, Instr.makeFunc, Sem.run_bind, Sem.run_pure, Result.andThen_ok, e3]
theorem turns_makeMap (ha : AR E A n a) (hr : Rep w0 E h w) {o : Oper} {t : TypeId} (ho : o.op = .makeMap t none) (hn : h.n < 2 ^ D) : Turns P w0 E a w o (.v (.one (.m h.n))) (apU h [.new (.map [] 0)]) := by
 refine ⟨_, _, _, Pre.one E _, hr.alloc (ob := .map #[] 0) (o := .map [] 0) 0 hn ⟨#[], rfl, trivial⟩, ⟨w.heap.size, 0, last_new hr _, rfl⟩, .inl ?_⟩
 simp only [execOp, ho, Instr.makeMap, Option.map_none, Sem.run_bind, Sem.run_pure, Result.andThen_ok, run_newObj]
 rfl
theorem turns_makeIface (ha : AR E A n a) (hr : Rep w0 E h w) {o : Oper} {t : TypeId} {x : Operand} {p r : AV} {us : List U} (ho : o.op = .makeInterface t x) (hx : evA A x = some p) (he : evMakeIface P h t p = some (r, us)) : Turns P w0 E a w o r (apU h us) := by
 have h1 := evA_ok ha x p hx
 unfold evMakeIface at he
 split at he
 · rename_i y hi
   obtain ⟨d, hd, hne⟩ := isIface_ok hi
   split at he
   · rename_i hn
     cases he
     refine ⟨E ++ [.clo (.iface t (a.eval x))], w, .iface t (a.eval x), Pre.one E _, hr.grow hn ⟨a.eval x, last_new hr _, V2.ext (Ext.one E _) _ _ h1⟩ (fun b c e => by cases e), ⟨last_new hr _, _, rfl⟩, .inl ?_⟩
     cases d <;> first | (exact absurd rfl (hne _)) | simp only [execOp, ho, Instr.makeInterface, Sem.run_bind, run_underlying hd, Sem.run_pure, Result.andThen_ok]
   · cases he
 · cases he
/-- A block that is no row is set. -/
theorem eff_set (hr : Rep w0 E h w) {k b c : Nat} {q q' : AO} {x x' : Obj} (hk : E[k]? = some (.blk b c)) (hq : h.get k = some q) (hx : w.heap[b]? = some x) (hno : ∀ c t f, x ≠ .cells c t f) (hi : Is E c (some x') q') :
  (setObj b x').run P w = .ok () { w with heap := w.heap.setIfInBounds b x' } ∧ Rep w0 E (h.put k q') { w with heap := w.heap.setIfInBounds b x' } := by
 have hlt := hr.old k b c hk
 refine ⟨?_, hr.put hk hq ⟨hr.below.os, hr.below.tape, hr.below.output, ?_, fun j hj => ?_⟩ ?_ ?_ ?_⟩
 · cases x <;> first | (exact absurd rfl (hno _ _ _)) | simp [setObj, Sem.run, hx]
 · show w0.heap.size ≤ (w.heap.setIfInBounds b x').size
   rw [Array.size_setIfInBounds]
   exact hr.below.size
 · show (w.heap.setIfInBounds b x')[j]? = _
   rw [Array.getElem?_setIfInBounds, if_neg (by omega)]
   exact hr.below.block j hj
 · show w.heap.size ≤ (w.heap.setIfInBounds b x').size
   rw [Array.size_setIfInBounds]
   exact Nat.le_refl _
 · have : (w.heap.setIfInBounds b x')[b]? = some x' := by simp [hlt.2]
   show Is E c (w.heap.setIfInBounds b x')[b]? q'
   rw [this]
   exact hi
 · intro j hj _
   show (w.heap.setIfInBounds b x')[j]? = _
   rw [Array.getElem?_setIfInBounds, if_neg (by omega)]
theorem turns_mapUpdate (ha : AR E A n a) (hr : Rep w0 E h w) {o : Oper} {t : TypeId} {m k x : Operand} {p q s : AV} {us : List U} (ho : o.op = .mapUpdate t m k x ∨ o.op = .insert t m k x) (hm : evA A m = some p) (hk : evA A k = some q) (hx : evA A x = some s) (he : evMapUpdate P h t p q s = some us) : Turns P w0 E a w o undefA (apU h us) := by
 have h1 := evA_ok ha m p hm
 have h2 := evA_ok ha k q hk
 have h3 := evA_ok ha x s hx
 unfold evMapUpdate at he
 split at he
 · rename_i kt e j key y hu
   obtain ⟨b, c, hb, hv⟩ := h1
   have h2 : V1 E key (a.eval k) := h2
   split at he
   · rename_i es cl hko hg
     obtain ⟨ms, hob, hme⟩ := map_of hr hb hg
     split at he
     · rename_i hf
       cases he
       rcases find_ok (w := w) hko h2 hme hf with ⟨_, h4, h5, hrun⟩ | ⟨y', u, h4, _⟩
       · have hc := check_ok (w := w) hko h2 false
         obtain ⟨g1, g2⟩ := eff_set (P := P) hr hb hg hob (fun _ _ _ => by simp) (x' := .map (ms.push { key := a.eval k, val := a.eval x, born := cl }) (cl + 1)) (q' := .map (es ++ [(key, y, cl)]) (cl + 1)) ⟨_, rfl, by
          rw [Array.toList_push]
          exact hme.append ⟨⟨h2, h3, rfl⟩, trivial⟩⟩
         refine ⟨E, _, undef, Pre.refl E, g2, undef_ok, .inr ⟨?_, rfl⟩⟩
         rcases ho with ho | ho <;> simp only [execOp, ho, hv, Instr.mapUpdate, Sem.run_bind, Sem.run_pure, Result.andThen_ok, run_underlying hu, MapKept.run_getObj_map hob, hc, hrun, g1]
       · cases h4
     · cases he
   · cases he
 · cases he
theorem turns_clear (ha : AR E A n a) (hr : Rep w0 E h w) {o : Oper} {c : Call} {x : AV} {t : TypeId} {tl : List TypeId} {us : List U} (ho : o.op = .call c) (hc : c.callee = .builtin .clear) (hx : allSome (evA A) c.args.toList = some [x]) (ht : c.argTypes.toList = t :: tl)
  (he : evClear P h t x = some us) : Turns P w0 E a w o (.tup []) (apU h us) := by
 obtain ⟨v, hv, heq⟩ := args1 ha hx
 have h0 := ty0 ht
 unfold evClear at he
 split at he
 · rename_i kt e k hu
   obtain ⟨b, c', hk, hv⟩ := hv
   split at he
   · rename_i es cl hg
     cases he
     obtain ⟨ms, hob, hme⟩ := map_of hr hk hg
     obtain ⟨g1, g2⟩ := eff_set (P := P) hr hk hg hob (fun _ _ _ => by simp) (x' := .map #[] cl) (q' := .map [] cl) ⟨_, rfl, trivial⟩
     refine ⟨E, _, .tuple #[], Pre.refl E, g2, ⟨[], trivial, rfl⟩, .inl ?_⟩
     subst hv
     simp [execOp, ho, resolve, hc, heq, invoke, builtin, Builtin.clear_, h0, run_underlying hu, MapKept.run_getObj_map hob, g1]
   · cases he
 · cases he
theorem turns_delete (ha : AR E A n a) (hr : Rep w0 E h w) {o : Oper} {c : Call} {x y : AV} {t : TypeId} {tl : List TypeId} {us : List U} (ho : o.op = .call c) (hc : c.callee = .builtin .delete) (hx : allSome (evA A) c.args.toList = some [x, y]) (ht : c.argTypes.toList = t :: tl)
  (he : evDelete P h t x y = some us) : Turns P w0 E a w o (.tup []) (apU h us) := by
 obtain ⟨v, u, hv, hu', heq⟩ := args2 ha hx
 have h0 := ty0 ht
 unfold evDelete at he
 split at he
 · rename_i kt e k key hu
   obtain ⟨b, c', hk, hv⟩ := hv
   have h2 : V1 E key u := hu'
   split at he
   · rename_i cl hko hg
     cases he
     obtain ⟨ms, hob, hme⟩ := map_of hr hk hg
     obtain ⟨g1, g2⟩ := eff_set (P := P) hr hk hg hob (fun _ _ _ => by simp) (x' := .map ms cl) (q' := .map [] cl) ⟨_, rfl, hme⟩
     have hck := check_ok (w := w) hko h2 ms.isEmpty
     rcases find_ok (w := w) (r := none) hko h2 hme rfl with ⟨_, _, _, hrun⟩ | ⟨_, _, h4, _⟩
     · refine ⟨E, _, .tuple #[], Pre.refl E, g2, ⟨[], trivial, rfl⟩, .inl ?_⟩
       subst hv
       simp [execOp, ho, resolve, hc, heq, invoke, builtin, Builtin.delete_, h0, run_underlying hu, MapKept.run_getObj_map hob, hck, hrun, g1]
     · cases h4
   · cases he
 · cases he
theorem turns_copy (ha : AR E A n a) (hr : Rep w0 E h w) {o : Oper} {c : Call} {x y r : AV} {t : TypeId} {tl : List TypeId} {us : List U} (ho : o.op = .call c) (hc : c.callee = .builtin .copy) (hx : allSome (evA A) c.args.toList = some [x, y]) (ht : c.argTypes.toList = t :: tl)
  (he : evCopy P h t x y = some (r, us)) : Turns P w0 E a w o r (apU h us) := by
 obtain ⟨v, u, hv, hu', heq⟩ := args2 ha hx
 have h0 := ty0 ht
 unfold evCopy at he
 split at he
 · cases he
 · rename_i e hel
   split at he
   · rename_i z k f i ce k2 f2 j ce2 hs
     obtain ⟨b, c', hk, hv, _⟩ := hv
     obtain ⟨b2, c2', hk2, hv2, _⟩ := hu'
     split at he
     · rename_i cs q hcs hg
       split at he
       · rename_i l hl
         split at he
         · rename_i l' hov
           cases hre : reRow q l' with
           | none => simp [hre] at he
           | some q' =>
            simp only [hre, Option.map_some, Option.some.injEq, Prod.mk.injEq] at he
            obtain ⟨rfl, rfl⟩ := he
            unfold cellsIn at hcs
            cases hg2 : h.get k2 with
            | none => simp [hg2] at hcs
            | some q2 =>
             cases hl2 : rowOf q2 with
             | none => simp [hg2, hl2] at hcs
             | some l2 =>
              simp only [hg2, hl2, Option.bind_some] at hcs
              obtain ⟨vs, hvs, hlen, hra⟩ := range_at hr hk2 hg2 hl2 hcs
              have hld : (loadCells ⟨b2, f2, none⟩ (vs.take (Nat.min j i * z)).length).run P w = .ok (vs.take (Nat.min j i * z)).toArray w :=
               run_loadCells_list (P := P) w ⟨b2, f2, none⟩ _ (fun m v hv => by
                rw [Addr.add_mid]
                rw [List.getElem?_take] at hv
                split at hv
                · exact hra m v hv
                · cases hv)
              have hmin : Nat.min j i * z ≤ vs.length := by
               rw [hlen]
               exact Nat.mul_le_mul_right _ (Nat.min_le_left _ _)
              have hlen2 : (vs.take (Nat.min j i * z)).length = Nat.min j i * z := by rw [List.length_take]; omega
              rw [hlen2] at hld
              obtain ⟨g1, g2⟩ := eff_write (P := P) hr hk hg hl hov hre (hvs.take (Nat.min j i * z))
              refine ⟨E, _, .int .i64 (Nat.min j i : Nat), Pre.refl E, g2, rfl, .inl ?_⟩
              subst hv
              subst hv2
              have h1 : c.argTypes[0]? = some t := h0
              simp only [execOp, ho, resolve, hc, heq, invoke, builtin, Builtin.copy_, Sem.run_bind, Sem.run_pure, Result.andThen_ok, h1, List.getElem?_toArray, List.getElem?_cons_zero, List.getElem?_cons_succ, run_underlying (elem_ok hel), Builtin.lenOf, Builtin.firstCells, run_size hs, hld, goInt]
              simp only [g1, Result.andThen_ok, Sem.run_pure]
         · cases he
       · cases he
     · cases he
   · cases he
end
end Go.Ev
