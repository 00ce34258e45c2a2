/- The reckoner is right: drawn regions, second part. -/
import Derived.Test.YtbmdocjeepnhmaaGreatDoorExB3
import Derived.LoopN
import Derived.Tactics
import Derived.Lib.BytesEntry
import Derived.Test.YtbmdocjeepnhmaaGreatDoorProg
import Derived.WalkKit
import Derived.Tactics2
import Derived.LoopTactic
import Derived.Laws.Pointers
import Derived.Laws.Entries
import Derived.Laws.BitsLemmas
import Derived.Lib.Hide
set_option linter.unusedVariables false
set_option linter.unusedSimpArgs false
set_option linter.unusedSectionVars false
namespace Go.Ev
open Go Go.RowKit
variable [Sy]
section
variable {E E' : List Ent} {A : Fr} {n : Nat} {a : Act} {P : Program} {w0 : Base} {w w' ws : World} {h h0 : Hp}
theorem allocNo_eq (ops : Array Oper) (i : Nat) : allocNo ops i = ((ops.toList.take i).filter isAlloc).length := rfl
theorem allocNo_lt {ops : Array Oper} {i j : Nat} {o : Oper} (hi : ops[i]? = some o) (ho : isAlloc o = true) (hij : i < j) : allocNo ops i < allocNo ops j := by
 rw [allocNo_eq, allocNo_eq]
 have hi' : ops.toList[i]? = some o := by rw [Array.getElem?_toList]; exact hi
 have e1 : ops.toList.take (i + 1) = ops.toList.take i ++ [o] := by rw [List.take_add_one, hi']; rfl
 have e2 : (ops.toList.take (i + 1)).filter isAlloc = (ops.toList.take i).filter isAlloc ++ [o] := by
  rw [e1, List.filter_append]
  simp [ho]
 have e3 : ((ops.toList.take (i + 1)).filter isAlloc).length ≤ ((ops.toList.take j).filter isAlloc).length := by
  refine List.Sublist.length_le (List.Sublist.filter _ ?_)
  have e4 : ops.toList.take (i + 1) = (ops.toList.take j).take (i + 1) := by rw [List.take_take, Nat.min_eq_left hij]
  rw [e4]
  exact List.take_sublist _ _
 rw [e2, List.length_append] at e3
 exact e3
/-- The names of the variables that are not made yet. -/
def Res (ops : Array Oper) (n0 : Nat) (listed : Array Bool) (E : List Ent) : Prop := ∀ (j : Nat) (o : Oper), ops[j]? = some o → isAlloc o = true → listed.getD j true = false → E[n0 + allocNo ops j]? = some .none
theorem getD_set_keep {listed : Array Bool} {i j : Nat} (h : (listed.setIfInBounds i true).getD j true = false) : listed.getD j true = false ∧ j ≠ i := by
 by_cases hij : j = i
 · subst hij
   exfalso
   rw [Array.getD_eq_getD_getElem?, Array.getElem?_setIfInBounds] at h
   simp only [if_true] at h
   split at h
   · cases h
   · cases h
 · refine ⟨?_, hij⟩
   rw [Array.getD_eq_getD_getElem?, Array.getElem?_setIfInBounds, if_neg (fun e => hij e.symm)] at h
   rw [Array.getD_eq_getD_getElem?]
   exact h
theorem Res.pre {ops : Array Oper} {n0 i : Nat} {listed : Array Bool} (hres : Res ops n0 listed E) (hp : Pre E E') : Res ops n0 (listed.setIfInBounds i true) E' := fun j o hj ho hl => by
 have h1 := hres j o hj ho (getD_set_keep hl).1
 rw [hp.2 _ (List.getElem?_eq_some_iff.1 h1).1]
 exact h1
theorem Agree.pre {n0 : Nat} {E0 : List Ent} (hag : Agree n0 E0 E) (hp : Pre E E') (hn : n0 ≤ E0.length) : Agree n0 E0 E' := ⟨hag.1.trans hp.ext, fun k hk => by rw [hp.2 k (Nat.lt_of_lt_of_le hk (Nat.le_trans hn hag.1.1))]; exact hag.2 k hk⟩
theorem fill_agree {n0 k : Nat} {E0 : List Ent} {e : Ent} (hag : Agree n0 E0 E) (hk : E[n0 + k]? = some .none) : Agree n0 E0 (E.set (n0 + k) e) := ⟨hag.1.trans (Ext.fill E _ _ hk), fun j hj => by
 rw [List.getElem?_set, if_neg (by omega)]
 exact hag.2 j hj⟩
theorem fill_res {ops : Array Oper} {n0 i : Nat} {o : Oper} {listed : Array Bool} {e : Ent} (hi : ops[i]? = some o) (hal : isAlloc o = true) (hres : Res ops n0 listed E) : Res ops n0 (listed.setIfInBounds i true) (E.set (n0 + allocNo ops i) e) := fun j q hj hq hl => by
 obtain ⟨hl', hne⟩ := getD_set_keep hl
 have h3 := hres j q hj hq hl'
 have hneq : n0 + allocNo ops i ≠ n0 + allocNo ops j := by
  rcases Nat.lt_or_gt_of_ne hne with h4 | h4
  · have := allocNo_lt hj hq h4
    omega
  · have := allocNo_lt hi hal h4
    omega
 rw [List.getElem?_set, if_neg hneq]
 exact h3
theorem doOpD_ok {call : CallT} (hcall : CallOk P w0 call) {H : Hk} (hru : RuOk P w0 H.ru) {ops : Array Oper} {n0 i : Nat} {s s' : St} {o : Oper} (hi : ops[i]? = some o) (hd : doOpD P H call ops n0 i s o = some s') (ha : AR E s.A s.n a) (hr : Rep w0 E s.h w) {listed : Array Bool} (hres : Res ops n0 listed E) (hun : listed.getD i true = false) {E0 : List Ent} (hag : Agree n0 E0 E) (hn0 : n0 ≤ E0.length) {K : Act → World → Prop} {Q : Exit → Act → World → Prop}
  (hK : ∀ E' a' w', Agree n0 E0 E' → Res ops n0 (listed.setIfInBounds i true) E' → AR E' s'.A s'.n a' → Rep w0 E' s'.h w' → K a' w') : if Region.wanted o (yielded ops a.tmps) then o.wp P a w K Q else K (a.put o.dst undef) w := by
 unfold doOpD at hd
 split at hd
 · rename_i e ho
   obtain ⟨A, n, h⟩ := s
   simp only at hd ha hr
   split at hd
   · rename_i z hw hz
     split at hd
     · rename_i hsz
       rw [fN_eq] at hd
       obtain ⟨h1, h2⟩ := putF_ok hd
       cases h2
       rw [wanted_ok ha hw, if_pos rfl]
       obtain ⟨v, hv, hrun⟩ := zero_ok (E := E) hz
       have hal : isAlloc o = true := by unfold isAlloc; rw [ho]
       have hk := hres i o hi hal hun
       have hx : Ext E (E.set (n0 + allocNo ops i) (.blk w.heap.size 0)) := Ext.fill E _ _ hk
       have hrep := hr.fill (c := 0) (ob := .cells v.cells e) (o := .cells e z.cells) hk ⟨v.cells, (0, 0), rfl, .inr rfl, (V2.cells hv).imp (V1.ext hx)⟩
       have hkl : n0 + allocNo ops i < E.length := (List.getElem?_eq_some_iff.1 hk).1
       have hnew : (E.set (n0 + allocNo ops i) (.blk w.heap.size 0))[n0 + allocNo ops i]? = some (.blk w.heap.size 0) := by simp [hkl]
       have hexec : (execOp a.eval o).run P w = .ok (.value (.pointer (some ⟨w.heap.size, 0, none⟩))) (w.alloc (.cells v.cells e)) := by
        simp only [execOp, ho, Instr.alloc, newVar, newRow, Sem.run_bind, hrun, Result.andThen_ok, Sem.run_pure, run_newObj]
        rfl
       unfold Oper.wp
       rw [hexec]
       refine hK _ _ _ ⟨hag.1.trans hx, fun k hkn => ?_⟩ (fun j q hj hq hl => ?_) ((ha.ext hx).put (x := .v (.one (.p (n0 + allocNo ops i) 0))) h1 ⟨w.heap.size, 0, hnew, rfl⟩) hrep
       · rw [List.getElem?_set, if_neg (by omega)]
         exact hag.2 k hkn
       · obtain ⟨hl', hne⟩ := getD_set_keep hl
         have h3 := hres j q hj hq hl'
         have hneq : n0 + allocNo ops i ≠ n0 + allocNo ops j := by
          rcases Nat.lt_or_gt_of_ne hne with h4 | h4
          · have := allocNo_lt hj hq h4
            omega
          · have := allocNo_lt hi hal h4
            omega
         rw [List.getElem?_set, if_neg hneq]
         exact h3
     · cases hd
   · cases hd
 · rename_i t m ps ho
   obtain ⟨A, n, h⟩ := s
   simp only at hd ha hr
   split at hd
   · rename_i hw
     split at hd
     · rename_i kk q l c ob he
       rw [fN_eq] at hd
       obtain ⟨h1, h2⟩ := putF_ok hd
       cases h2
       rw [wanted_ok ha hw, if_pos rfl]
       have hal : isAlloc o = true := by unfold isAlloc; rw [ho]
       have hk := hres i o hi hal hun
       have hkl : n0 + allocNo ops i < E.length := (List.getElem?_eq_some_iff.1 hk).1
       unfold evEff at he
       rw [ho] at he
       simp only at he
       split at he
       · rename_i qs hq
         obtain ⟨e, l', cs, e1, e2, _, hl, hexec⟩ := exec_buildSlice (E := E) (w := w) ha ho hq he
         injection e1 with e1
         injection e1 with e1
         injection e1 with _ g1 g2 g3
         subst g1; subst g2; subst g3
         injection e2 with e2
         injection e2 with e2
         subst e2
         have hx : Ext E (E.set (n0 + allocNo ops i) (.blk w.heap.size 0)) := Ext.fill E _ _ hk
         have hnew : (E.set (n0 + allocNo ops i) (.blk w.heap.size 0))[n0 + allocNo ops i]? = some (.blk w.heap.size 0) := by simp [hkl]
         have hrep := hr.fill (c := 0) (ob := .cells cs e) (o := .cells e l') hk ⟨cs, (0, 0), rfl, .inr rfl, hl.imp (V1.ext hx)⟩
         unfold Oper.wp
         rw [hexec]
         exact hK _ _ _ (fill_agree hag hk) (fill_res hi hal hres) ((ha.ext hx).put (x := .v (.one (.sl (n0 + allocNo ops i) 0 _ (.ex _)))) h1 ⟨w.heap.size, 0, hnew, rfl, Nat.le_refl _⟩) hrep
       · cases he
     · cases hd
   · cases hd
 · rename_i g first caps ho
   obtain ⟨A, n, h⟩ := s
   simp only at hd ha hr
   split at hd
   · rename_i hw
     split at hd
     · rename_i kk ob he
       rw [fN_eq] at hd
       obtain ⟨h1, h2⟩ := putF_ok hd
       cases h2
       rw [wanted_ok ha hw, if_pos rfl]
       have hal : isAlloc o = true := by unfold isAlloc; rw [ho]
       have hk := hres i o hi hal hun
       have hkl : n0 + allocNo ops i < E.length := (List.getElem?_eq_some_iff.1 hk).1
       obtain ⟨f, ws, cs, _, e2, hcs, hfn, hexec⟩ := exec_makeFunc (E := E) (w := w) ha ho he
       injection e2 with e2
       injection e2 with e2
       subst e2
       have hx : Ext E (E.set (n0 + allocNo ops i) (.clo (cloV f cs.toArray))) := Ext.fill E _ _ hk
       have hnew : (E.set (n0 + allocNo ops i) (.clo (cloV f cs.toArray)))[n0 + allocNo ops i]? = some (.clo (cloV f cs.toArray)) := by simp [hkl]
       unfold Oper.wp
       rw [hexec]
       exact hK _ _ _ (fill_agree hag hk) (fill_res hi hal hres) ((ha.ext hx).put (x := .v (.one (.clo (n0 + allocNo ops i)))) h1 ⟨hnew, hfn⟩) (hr.fillC hk hcs)
     · cases hd
   · cases hd
 · exact doOp_ok hcall hru hd ha hr (fun E' a' w' hp ha' hr' => hK E' a' w' (hag.pre hp hn0) (hres.pre hp) ha' hr')
theorem spotVal_ok {g : Nat} {cs : List A1} {v : AV} {vs : List Value} (h : spotVal g cs = some v) (hv : All2 (V1 E) cs vs) : (g = 1 ∧ VV E v (.agg vs.toArray)) ∨ (g = 0 ∧ ∃ u, vs = [u] ∧ VV E v u) ∨ (∃ l, u8s cs = some l ∧ v = .v (.one (.s l)) ∧ g ≠ 0 ∧ g ≠ 1) := by
 unfold spotVal at h
 split at h
 · rename_i y
   cases h
   cases vs with
   | nil => exact hv.elim
   | cons u us =>
    cases us with
    | nil => exact .inr (.inl ⟨rfl, u, rfl, hv.1⟩)
    | cons _ _ => exact hv.2.elim
 · cases h
 · cases h
   exact .inl ⟨rfl, vs, hv, rfl⟩
 · rename_i h0 h1
   cases hu : u8s cs with
   | none => simp [hu] at h
   | some l =>
    simp only [hu, Option.map_some, Option.some.injEq] at h
    exact .inr (.inr ⟨l, rfl, h.symm, by assumption, by assumption⟩)
/-- A load (or a text made of bytes) that is taken ahead yields the same in every world in which its fact holds. -/
theorem spot_ok (ha : AR E A n a) {E0 : List Ent} {n0 : Nat} (hs : Rep w0 E0 h0 ws) (hag : Agree n0 E0 E) {o : Oper} {g : Nat} {f : Nat × Nat × Nat} {cs cs1 : List A1} {v : AV} {i : Nat} (hsp : evSpot P A o = some (g, f)) (hv : spotVal g cs = some v) (hn : f.1 < n0) (hc : cellsAt h0 f = some cs) :
  ∃ u, VV E v u ∧ ∀ w, FactC E0 ws (i, .inl (f, cs1)) w → (execOp a.eval o).run P w = .ok (.value u) w := by
 obtain ⟨q, l, g1, g2, g3⟩ := cellsAt_ok hc
 have go : ∀ (t : TypeId) (x : Operand) (k b c : Nat), o.op = .load t x → a.eval x = .pointer (some ⟨b, f.2.1, none⟩) → E0[f.1]? = some (.blk b c) → (g = 0 ∧ isAggT P t = some false ∨ g = 1 ∧ isAggT P t = some true ∧ sizeT P t = some f.2.2) → ∃ u, VV E v u ∧ ∀ w, FactC E0 ws (i, .inl (f, cs1)) w → (execOp a.eval o).run P w = .ok (.value u) w := by
  intro t x k b c ho hx hk0 hcase
  obtain ⟨vs, a1, a2, a3⟩ := range_at hs hk0 g1 g2 g3
  rcases spotVal_ok hv (a1.imp (V1.ext hag.1)) with ⟨rfl, hvv⟩ | ⟨rfl, u, rfl, hvv⟩ | ⟨_, _, _, hne0, hne1⟩
  · obtain ⟨h0, _⟩ | ⟨_, hag', hsz⟩ := hcase
    · cases h0
    refine ⟨_, hvv, fun w hf => ?_⟩
    have hra : w.rangeAt b f.2.1 vs := hf b c hk0 vs a2 a3
    have hl : (loadCells ⟨b, f.2.1, none⟩ vs.length).run P w = .ok vs.toArray w :=
     run_loadCells_list (P := P) w ⟨b, f.2.1, none⟩ vs (fun j v hv => by rw [Addr.add_mid]; exact hra j v hv)
    rw [a2] at hl
    simp [execOp, ho, hx, Instr.loadAt, Instr.sureAddr, loadVar, run_agg hag', run_size hsz, hl]
  · obtain ⟨_, hag'⟩ | ⟨h0, _⟩ := hcase
    · refine ⟨_, hvv, fun w hf => ?_⟩
      have hra : w.rangeAt b f.2.1 [u] := hf b c hk0 [u] a2 a3
      have hc := hra 0 u rfl
      simp only [Nat.add_zero] at hc
      simp [execOp, ho, hx, Instr.loadAt, Instr.sureAddr, loadVar, run_agg hag', run_load, hc]
    · cases h0
  · rcases hcase with ⟨h0, _⟩ | ⟨h0, _⟩
    · exact absurd h0 hne0
    · exact absurd h0 hne1
 unfold evSpot at hsp
 split at hsp
 · rename_i t x ho
   split at hsp
   · rename_i k q' hx hagg
     cases hsp
     obtain ⟨b, c, hk, he⟩ := evA_ok ha x _ hx
     exact go t x k b c ho he (by rw [← hag.2 _ hn]; exact hk) (.inl ⟨rfl, hagg⟩)
   · rename_i k q' m hx hagg hsz
     cases hsp
     obtain ⟨b, c, hk, he⟩ := evA_ok ha x _ hx
     exact go t x k b c ho he (by rw [← hag.2 _ hn]; exact hk) (.inr ⟨rfl, hagg, hsz⟩)
   · cases hsp
 · rename_i s d x ho
   split at hsp
   · rename_i k q' m c e hx hsu hdu
     split at hsp
     · rename_i heu
       cases hsp
       obtain ⟨b, cap, hk, he, _⟩ := evA_ok ha x _ hx
       have hk0 : E0[k]? = some (.blk b cap) := by rw [← hag.2 _ hn]; exact hk
       obtain ⟨vs, a1, a2, a3⟩ := range_at hs hk0 g1 g2 g3
       rcases spotVal_ok hv (a1.imp (V1.ext hag.1)) with ⟨h0, _⟩ | ⟨h0, _⟩ | ⟨l', hl', rfl, _⟩
       · cases h0
       · cases h0
       obtain ⟨e1, e2⟩ := u8s_ok a1 hl'
       refine ⟨.string (bytes l'), ⟨rfl, e2⟩, fun w hf => ?_⟩
       have hra : w.rangeAt b q' vs := hf b cap hk0 vs a2 a3
       exact run_b2s ho he hsu hdu heu (by rw [e1, List.length_map] at a2; exact a2.symm) e2 (by rw [← e1]; exact hra)
     · cases hsp
   · cases hsp
 · cases hsp
theorem noWait_of {ops : Array Oper} {i j : Nat} (h : noWait .any ops j i) : waitsFor ops j i = false := by
 unfold waitsFor
 cases ho : ops[j]? with
 | none => rfl
 | some o =>
  simp only
  rw [Bool.eq_false_iff]
  intro hc
  obtain ⟨e, he, hb⟩ := Array.any_eq_true'.1 hc
  simp only [Bool.and_eq_true, beq_iff_eq] at hb
  exact h o ho e he hb.1 hb.2
theorem ready_noWait {ops : Array Oper} {listed : Array Bool} {i f : Nat} (hi : i ∈ Region.ready .any ops listed) (hf : listed.getD f true = false) : noWait .any ops i f := by
 obtain ⟨hun, o, ho, hall⟩ := mem_ready.1 hi
 intro o' ho' e he hb heq
 rw [ho] at ho'
 cases ho'
 have h1 := hall e he hb
 rw [heq] at h1
 rw [Array.getD_eq_getD_getElem?] at h1 hf
 cases hg : listed[f]? with
 | none => rw [hg] at hf; cases hf
 | some b =>
  rw [hg] at h1 hf
  simp only [Option.getD_some] at h1 hf
  rw [h1] at hf
  cases hf
theorem runSch_ok {call : CallT} (hcall : CallOk P w0 call) {H : Hk} (hru : RuOk P w0 H.ru) (hrp : RpOk P H.rp) {ops : Array Oper} (hsel : Region.noSelect ops = true) {n0 : Nat} {E0 : List Ent} (hn0 : n0 ≤ E0.length) (hs : Rep w0 E0 h0 ws) {FS : List FactA} {HS : List (Nat × Hp)} (hfacts : ∀ x ∈ FS, factsOk ops n0 h0 HS x = true) {Q : Exit → Act → World → Prop} (hQ : ∀ c a w, ¬ Q (.panic c) a w) :
  ∀ (sch : Sch) (fuel : Nat) (listed : Array Bool) (s s' : St) (fs : List FactA) (hs' : List (Nat × Hp)), schedOk ops fuel sch listed = true → runSch P H call ops n0 sch s = some (s', fs, hs') → (∀ x ∈ fs, x ∈ FS) → (∀ x ∈ hs', x ∈ HS) →
   ∀ (E : List Ent) (a : Act) (w : World) (al : Nat → Prop), AR E s.A s.n a → Rep w0 E s.h w → Agree n0 E0 E → Res ops n0 listed E → (∀ f, listed.getD f true = false → al f) → (∀ f, al f → ∀ x ∈ FS, x.1 = f → FactC E0 ws x w) →
    (∀ E' a' w', AR E' s'.A s'.n a' → Rep w0 E' s'.h w' → Agree n0 E0 E' → Q .normal a' w') → wpAnyG P .any ops Q (fun f w => ∀ x ∈ FS, x.1 = f → FactC E0 ws x w) fuel al listed a w := by
 have branch : ∀ (i : Nat) (o : Oper) (s s1 : St) (listed : Array Bool) (fuel : Nat), ops[i]? = some o → doOpD P H call ops n0 i s o = some s1 → (i, s1.h) ∈ HS → i ∈ Region.ready .any ops listed →
   ∀ (E : List Ent) (a : Act) (w : World) (al : Nat → Prop), AR E s.A s.n a → Rep w0 E s.h w → Agree n0 E0 E → Res ops n0 listed E → (∀ f, listed.getD f true = false → al f) →
   (∀ (E : List Ent) (a : Act) (w : World) (al : Nat → Prop), AR E s1.A s1.n a → Rep w0 E s1.h w → Agree n0 E0 E → Res ops n0 (listed.setIfInBounds i true) E → (∀ f, (listed.setIfInBounds i true).getD f true = false → al f) → (∀ f, al f → ∀ x ∈ FS, x.1 = f → FactC E0 ws x w) → wpAnyG P .any ops Q (fun f w => ∀ x ∈ FS, x.1 = f → FactC E0 ws x w) fuel al (listed.setIfInBounds i true) a w) →
   wpOp P ops Q i (fun a' w' => (∀ f, kill .any ops i al f → ∀ x ∈ FS, x.1 = f → FactC E0 ws x w') ∧ wpAnyG P .any ops Q (fun f w => ∀ x ∈ FS, x.1 = f → FactC E0 ws x w) fuel (kill .any ops i al) (listed.setIfInBounds i true) a' w') a w := by
  intro i o s s1 listed fuel ho hd hin hready E a w al ha hr hag hres hal hrec
  have hun := (mem_ready.1 hready).1
  have hop := doOpD_ok hcall hru (K := fun a' w' => (∀ f, kill .any ops i al f → ∀ x ∈ FS, x.1 = f → FactC E0 ws x w') ∧ wpAnyG P .any ops Q (fun f w => ∀ x ∈ FS, x.1 = f → FactC E0 ws x w) fuel (kill .any ops i al) (listed.setIfInBounds i true) a' w') (Q := Q) ho hd ha hr hres hun hag hn0 (fun E' a' w' hag' hres' ha' hr' => by
    have hfact : ∀ f, kill .any ops i al f → ∀ x ∈ FS, x.1 = f → FactC E0 ws x w' := by
     intro f hf x hx hxf
     have h1 := hfacts x hx
     obtain ⟨xi, p | ⟨k, c⟩⟩ := x
     · obtain ⟨p, cs⟩ := p
       unfold factsOk at h1
       simp only at h1
       cases hc0 : cellsAt h0 p with
       | none => simp [hc0] at h1
       | some cs0 =>
        simp only [hc0, Bool.and_eq_true] at h1
        obtain ⟨⟨h2, h3⟩, h4⟩ := h1
        have h5 := List.all_eq_true.1 h4 _ hin
        simp only at hxf
        subst hxf
        rw [noWait_of hf.2, Bool.false_or] at h5
        cases hc : cellsAt s1.h p with
        | none => simp [hc] at h5
        | some cs' =>
         simp only [hc] at h5
         exact fact_at hs hr' hag' (Nat.le_of_ble_eq_true h3) hc0 hc (sameCells_ok h5)
     · unfold factsOk at h1
       simp only [Bool.and_eq_true] at h1
       obtain ⟨⟨h2, h3⟩, h4⟩ := h1
       have h5 := List.all_eq_true.1 h4 _ hin
       simp only at hxf
       subst hxf
       rw [noWait_of hf.2, Bool.false_or] at h5
       exact factL_at hs hr' hag' (Nat.le_of_ble_eq_true h3) h2 h5
    refine ⟨hfact, hrec E' a' w' _ ha' hr' hag' hres' (fun f hf => ?_) hfact⟩
    obtain ⟨hf1, hf2⟩ := getD_set_keep hf
    exact ⟨hal f hf1, ready_noWait hready hf1⟩)
  unfold wpOp
  simp only [ho]
  split
  · rename_i hw
    rw [if_pos hw] at hop
    exact .inl hop
  · rename_i hw
    rw [if_neg hw] at hop
    exact hop
 intro sch
 induction sch with
 | done =>
  intro fuel listed s s' fs hs' hok hrun _ _ E a w al ha hr hag hres hal hS hpost
  cases hrun
  have hnil : Region.ready .any ops listed = [] := by
   unfold schedOk at hok
   simpa using hok
  cases fuel with
  | zero => exact ⟨hnil, hpost E a w ha hr hag⟩
  | succ fuel => exact ⟨fun _ => hpost E a w ha hr hag, fun i hi => by rw [hnil] at hi; cases hi⟩
 | take i l ih =>
  intro fuel listed s s' fs hs' hok hrun hfs hhs E a w al ha hr hag hres hal hS hpost
  cases fuel with
  | zero => simp [schedOk] at hok
  | succ fuel =>
   unfold schedOk at hok
   simp only [Bool.and_eq_true] at hok
   obtain ⟨⟨hready, hfree⟩, hok⟩ := hok
   have hready' : i ∈ Region.ready .any ops listed := by simpa using hready
   have hun := (mem_ready.1 hready').1
   unfold runSch at hrun
   cases ho : ops[i]? with
   | none => simp [ho] at hrun
   | some o =>
    obtain ⟨A, n, h⟩ := s
    simp only [ho] at hrun
    simp only at ha hr
    have finish : ∀ (v : AV) (u : Value), (∀ t, o.dst = some t → t < n) → VV E v u → YieldsIf P ops (fun w => ∀ x ∈ FS, x.1 = i → FactC E0 ws x w) o u a → ∀ fs1 hs1, runSch P H call ops n0 l ⟨setA A o.dst v, n, h⟩ = some (s', fs1, hs1) → (∀ x ∈ fs1, x ∈ FS) → (∀ x ∈ hs1, x ∈ HS) → wpAnyG P .any ops Q (fun f w => ∀ x ∈ FS, x.1 = f → FactC E0 ws x w) (fuel + 1) al listed a w := by
     intro v u hd hvu hy fs1 hs1 hrun1 hfs1 hhs1
     refine wpAnyG_first ho (Region.noSelect_spec hsel) (fun c a w hq => absurd hq (hQ c _ w)) fuel al listed a w (Region.free_spec ho hfree) hready' hy (hal i hun) hS ?_
     exact ih fuel _ _ s' fs1 hs1 hok hrun1 hfs1 hhs1 E _ w al (ha.put hd hvu) hr hag (hres.pre (Pre.refl E)) (fun f hf => hal f (getD_set_keep hf).1) hS hpost
    split at hrun
    · rename_i hw
      have hwd := wanted_ok ha hw
      split at hrun
      · rename_i v hv
        obtain ⟨h1, h2⟩ := putF_ok hrun
        obtain ⟨u, hu, hex⟩ := evPure_ok ha hv
        exact finish v u h1 hu (.inl ⟨hwd, fun w _ => hex w⟩) _ _ h2 hfs hhs
      · split at hrun
        · rename_i v d hv
          split at hrun
          · rename_i s1 fs1 hs1 hput
            cases hrun
            obtain ⟨h1, h2⟩ := putF_ok hput
            rcases hrp _ _ _ _ _ _ hv _ _ ha with ⟨rfl, u, hu, hex⟩ | ⟨k, c, l', rfl, hl', hdet, ⟨b, cap, hk⟩, hgl⟩
            · exact finish v u h1 hu (.inl ⟨hwd, fun w _ => hex w⟩) _ _ h2 (fun x hx => hfs x (List.mem_append_right _ hx)) hhs
            · have hmem : (i, Sum.inr (k, c)) ∈ FS := hfs _ (List.mem_append_left _ List.mem_cons_self)
              have hfo := hfacts _ hmem
              unfold factsOk at hfo
              simp only [Bool.and_eq_true] at hfo
              obtain ⟨⟨g2, g3⟩, _⟩ := hfo
              have hk0 : E0[k]? = some (.blk b cap) := by rw [← hag.2 _ (Nat.le_of_ble_eq_true g3)]; exact hk
              obtain ⟨vs, a1, a2, a3⟩ := letter_cells hs (letterAt_ok g2) hk0 hl'
              obtain ⟨u, hu, hex⟩ := hgl b cap hk vs (a1.imp (V1.ext hag.1))
              exact finish v u h1 hu (.inl ⟨hwd, fun w hf => hex w ((hf _ hmem rfl) b cap hk0 l' hl' hdet vs a2 a3)⟩) _ _ h2 (fun x hx => hfs x (List.mem_append_right _ hx)) hhs
          · cases hrun
        · split at hrun
          · rename_i g f hsp
            split at hrun
            · rename_i cs hcs
              split at hrun
              · rename_i v hv
                split at hrun
                · rename_i s1 fs1 hs1 hput
                  cases hrun
                  obtain ⟨h1, h2⟩ := putF_ok hput
                  have hmem : (i, Sum.inl (f, cs)) ∈ FS := hfs _ List.mem_cons_self
                  have hfo := hfacts _ hmem
                  unfold factsOk at hfo
                  simp only at hfo
                  cases hc0 : cellsAt h0 f with
                  | none => simp [hc0] at hfo
                  | some cs0 =>
                   simp only [hc0, Bool.and_eq_true] at hfo
                   obtain ⟨⟨g2, g3⟩, _⟩ := hfo
                   have e1 := (sameCells_ok g2).1
                   subst e1
                   obtain ⟨u, hu, hex⟩ := spot_ok (i := i) ha hs hag hsp hv (Nat.le_of_ble_eq_true g3) hc0
                   exact finish v u h1 hu (.inl ⟨hwd, fun w hf => hex w (hf _ hmem rfl)⟩) _ _ h2 (fun x hx => hfs x (List.mem_cons_of_mem _ hx)) hhs
                · cases hrun
              · cases hrun
            · cases hrun
          · cases hrun
    · rename_i hw
      have hwd := wanted_ok ha hw
      obtain ⟨h1, h2⟩ := putF_ok hrun
      exact finish undefA undef h1 undef_ok (.inr ⟨hwd, rfl⟩) _ _ h2 hfs hhs
    · cases hrun
 | one i l ih =>
  intro fuel listed s s' fs hs' hok hrun hfs hhs E a w al ha hr hag hres hal hS hpost
  cases fuel with
  | zero => simp [schedOk] at hok
  | succ fuel =>
   unfold schedOk at hok
   simp only [Bool.and_eq_true, beq_iff_eq] at hok
   obtain ⟨hready, hok⟩ := hok
   unfold runSch at hrun
   cases ho : ops[i]? with
   | none => simp [ho] at hrun
   | some o =>
    simp only [ho] at hrun
    split at hrun
    · rename_i s1 hd
      split at hrun
      · rename_i s2 fs1 hs1 hrun1
        cases hrun
        refine ⟨fun h => (by rw [hready] at h; cases h), fun j hj => ?_⟩
        rw [hready] at hj
        have hj' := List.mem_singleton.1 hj
        subst hj'
        exact branch j o s s1 listed fuel ho hd (hhs _ List.mem_cons_self) (by rw [hready]; exact List.mem_singleton.2 rfl) E a w al ha hr hag hres hal (fun E a w al ha hr hag hres hal hS => ih fuel _ _ s' _ _ hok hrun1 hfs (fun x hx => hhs x (List.mem_cons_of_mem _ hx)) E a w al ha hr hag hres hal hS hpost)
      · cases hrun
    · cases hrun
 | two i j l m ihl ihm =>
  intro fuel listed s s' fs hs' hok hrun hfs hhs E a w al ha hr hag hres hal hS hpost
  cases fuel with
  | zero => simp [schedOk] at hok
  | succ fuel =>
   unfold schedOk at hok
   simp only [Bool.and_eq_true, beq_iff_eq] at hok
   obtain ⟨⟨hready, hokl⟩, hokm⟩ := hok
   unfold runSch at hrun
   split at hrun
   · rename_i o q ho hq
     split at hrun
     · rename_i s1 s2 hd1 hd2
       split at hrun
       · rename_i t1 fs1 hs1 t2 fs2 hs2 hrun1 hrun2
         split at hrun
         · rename_i hst
           cases hrun
           subst hst
           refine ⟨fun h => (by rw [hready] at h; cases h), fun k hk => ?_⟩
           rw [hready] at hk
           rcases List.mem_cons.1 hk with rfl | hk
           · exact branch k o s s1 listed fuel ho hd1 (hhs _ List.mem_cons_self) (by rw [hready]; exact List.mem_cons_self) E a w al ha hr hag hres hal (fun E a w al ha hr hag hres hal hS => ihl fuel _ _ _ _ _ hokl hrun1 (fun x hx => hfs x (List.mem_append_left _ hx)) (fun x hx => hhs x (List.mem_cons_of_mem _ (List.mem_cons_of_mem _ (List.mem_append_left _ hx)))) E a w al ha hr hag hres hal hS hpost)
           · have hk' := List.mem_singleton.1 hk
             subst hk'
             exact branch k q s s2 listed fuel hq hd2 (hhs _ (List.mem_cons_of_mem _ List.mem_cons_self)) (by rw [hready]; exact List.mem_cons_of_mem _ List.mem_cons_self) E a w al ha hr hag hres hal (fun E a w al ha hr hag hres hal hS => ihm fuel _ _ _ _ _ hokm hrun2 (fun x hx => hfs x (List.mem_append_right _ hx)) (fun x hx => hhs x (List.mem_cons_of_mem _ (List.mem_cons_of_mem _ (List.mem_append_right _ hx)))) E a w al ha hr hag hres hal hS hpost)
         · cases hrun
       · cases hrun
     · cases hrun
   · cases hrun
 | three i j k l m p ihl ihm ihp =>
  intro fuel listed s s' fs hs' hok hrun hfs hhs E a w al ha hr hag hres hal hS hpost
  cases fuel with
  | zero => simp [schedOk] at hok
  | succ fuel =>
   unfold schedOk at hok
   simp only [Bool.and_eq_true, beq_iff_eq] at hok
   obtain ⟨⟨⟨hready, hokl⟩, hokm⟩, hokp⟩ := hok
   unfold runSch at hrun
   split at hrun
   · rename_i o q r ho hq hr3
     split at hrun
     · rename_i s1 s2 s3 hd1 hd2 hd3
       split at hrun
       · rename_i t1 fs1 hs1 t2 fs2 hs2 t3 fs3 hs3 hrun1 hrun2 hrun3
         split at hrun
         · rename_i hst
           obtain ⟨hst1, hst2⟩ := hst
           cases hrun
           subst hst1
           subst hst2
           refine ⟨fun h => (by rw [hready] at h; cases h), fun g hg => ?_⟩
           rw [hready] at hg
           rcases List.mem_cons.1 hg with rfl | hg
           · exact branch g o s s1 listed fuel ho hd1 (hhs _ List.mem_cons_self) (by rw [hready]; exact List.mem_cons_self) E a w al ha hr hag hres hal (fun E a w al ha hr hag hres hal hS => ihl fuel _ _ _ _ _ hokl hrun1 (fun x hx => hfs x (List.mem_append_left _ hx)) (fun x hx => hhs x (List.mem_cons_of_mem _ (List.mem_cons_of_mem _ (List.mem_cons_of_mem _ (List.mem_append_left _ hx))))) E a w al ha hr hag hres hal hS hpost)
           rcases List.mem_cons.1 hg with rfl | hg
           · exact branch g q s s2 listed fuel hq hd2 (hhs _ (List.mem_cons_of_mem _ List.mem_cons_self)) (by rw [hready]; exact List.mem_cons_of_mem _ List.mem_cons_self) E a w al ha hr hag hres hal (fun E a w al ha hr hag hres hal hS => ihm fuel _ _ _ _ _ hokm hrun2 (fun x hx => hfs x (List.mem_append_right _ (List.mem_append_left _ hx))) (fun x hx => hhs x (List.mem_cons_of_mem _ (List.mem_cons_of_mem _ (List.mem_cons_of_mem _ (List.mem_append_right _ (List.mem_append_left _ hx)))))) E a w al ha hr hag hres hal hS hpost)
           · have hk' := List.mem_singleton.1 hg
             subst hk'
             exact branch g r s s3 listed fuel hr3 hd3 (hhs _ (List.mem_cons_of_mem _ (List.mem_cons_of_mem _ List.mem_cons_self))) (by rw [hready]; exact List.mem_cons_of_mem _ (List.mem_cons_of_mem _ List.mem_cons_self)) E a w al ha hr hag hres hal (fun E a w al ha hr hag hres hal hS => ihp fuel _ _ _ _ _ hokp hrun3 (fun x hx => hfs x (List.mem_append_right _ (List.mem_append_right _ hx))) (fun x hx => hhs x (List.mem_cons_of_mem _ (List.mem_cons_of_mem _ (List.mem_cons_of_mem _ (List.mem_append_right _ (List.mem_append_right _ hx)))))) E a w al ha hr hag hres hal hS hpost)
         · cases hrun
       · cases hrun
     · cases hrun
   · cases hrun
end
end Go.Ev
namespace Go.Ev
open Go Go.RowKit
variable [Sy]
section
variable {E E' : List Ent} {A : Fr} {n : Nat} {a : Act} {P : Program} {w0 : Base} {w w' ws : World} {h h0 : Hp}
theorem doDrawn_ok (hm : P.follows .mixedOrders = true) {call : CallT} (hcall : CallOk P w0 call) {H : Hk} (hru : RuOk P w0 H.ru) (hrp : RpOk P H.rp) {id : Nat} {ops : Array Oper} {s s' : St} (hd : doDrawn P H call ops s = some s') (ha : AR E s.A s.n a) (hr : Rep w0 E s.h w) {Q : Exit → Act → World → Prop} (hQ : ∀ c a w, ¬ Q (.panic c) a w)
  (hpost : ∀ E' a' w', Pre E E' → AR E' s'.A s'.n a' → Rep w0 E' s'.h w' → Q .normal a' w') : (Code.region id ops true).wp P Q a w := by
 obtain ⟨A, n, t, n0⟩ := s
 unfold doDrawn at hd
 simp only [fN_eq] at hd
 simp only at ha hr
 split at hd
 · rename_i hok
   simp only [Bool.and_eq_true] at hok
   split at hd
   · rename_i hmd
     split at hd
     · rename_i s1 fs hs hrun
       split at hd
       · rename_i hall
         cases hd
         have hlen : E.length = n0 := hr.len
         have hr1 : Rep w0 E ⟨t, n0⟩ { w with drawn := w.drawn + 1 } := hr.drew
         have hres := hr1.reserve (m := n0 + allocNo ops ops.size) (Nat.le_add_right _ _) hmd
         refine wp_region_any hm (wpAny_of_G (S := fun f w1 => ∀ x ∈ fs, x.1 = f → FactC (E ++ List.replicate (n0 + allocNo ops ops.size - n0) .none) { w with drawn := w.drawn + 1 } x w1) _ (fun _ => True) _ _ _ ?_)
         have hx : Ext E (E ++ List.replicate (n0 + allocNo ops ops.size - n0) Ent.none) := Ext.more E _
         exact runSch_ok hcall hru hrp hok.2 (E0 := E ++ List.replicate (n0 + allocNo ops ops.size - n0) .none) (by rw [List.length_append, hlen]; omega) hres (FS := fs) (HS := hs) (fun x hx => List.all_eq_true.1 hall x hx) hQ _ _ _ _ _ _ _ hok.1 hrun (fun _ h => h) (fun _ h => h) _ a _ _ (ha.ext hx) hres ⟨Ext.refl _, fun _ _ => rfl⟩ (fun j o hj ho _ => by
          have hlt := allocNo_lt hj ho (Array.getElem?_eq_some_iff.1 hj).1
          rw [List.getElem?_append_right (by omega), List.getElem?_replicate, if_pos (by omega)]) (fun _ _ => trivial) (fun _ _ x _ _ => FactC.refl x) (fun E' a' w' ha' hr' hag => hpost E' a' w' ⟨by
           have := hag.1.1
           rw [List.length_append] at this
           omega, fun k hk => by
           rw [hag.2 k (by omega), List.getElem?_append_left hk]⟩ ha' hr')
       · cases hd
     · cases hd
   · cases hd
 · cases hd
theorem doOps_ok {call : CallT} (hcall : CallOk P w0 call) {H : Hk} (hru : RuOk P w0 H.ru) {ops : Array Oper} {Q : Exit → Act → World → Prop} : ∀ (l : List Oper) (s s' : St) (E : List Ent) (a : Act) (w : World), doOps P H call ops l s = some s' → AR E s.A s.n a → Rep w0 E s.h w →
  (∀ E' a' w', Pre E E' → AR E' s'.A s'.n a' → Rep w0 E' s'.h w' → Q .normal a' w') → wpList P ops Q l a w
 | [], s, s', E, a, w, hd, ha, hr, hpost => by
  cases hd
  exact hpost E a w (Pre.refl E) ha hr
 | o :: l, s, s', E, a, w, hd, ha, hr, hpost => by
  unfold doOps at hd
  cases h1 : doOp P H call ops s o with
  | none => simp [h1] at hd
  | some s1 =>
   simp only [h1] at hd
   have hop := doOp_ok hcall hru (K := wpList P ops Q l) (Q := Q) h1 ha hr (fun E' a' w' hp ha' hr' => doOps_ok hcall hru l s1 s' E' a' w' hd ha' hr' (fun E2 a2 w2 hp2 => hpost E2 a2 w2 (hp.trans hp2)))
   unfold wpList
   split
   · rename_i hw
     rw [if_pos hw] at hop
     exact .inl hop
   · rename_i hw
     rw [if_neg hw] at hop
     exact hop
/-! ### A frame at its start -/
theorem setArgs_get : ∀ (xs : List AV) (i : Nat) (A : Fr), i + xs.length ≤ 256 → ∀ t, t < 256 → Tr.get DT (setArgs xs i A) t = if i ≤ t ∧ t < i + xs.length then xs[t - i]? else Tr.get DT A t
 | [], i, A, _, t, _ => by
  rw [if_neg (by simp only [List.length_nil]; omega)]
  rfl
 | x :: xs, i, A, hl, t, ht => by
  simp only [List.length_cons] at hl ⊢
  show Tr.get DT (setArgs xs (i + 1) (Tr.set DT A i (some x))) t = _
  rw [setArgs_get xs (i + 1) _ (by omega) t ht]
  by_cases h1 : t = i
  · subst h1
    rw [if_neg (by omega), if_pos (by omega), Tr.get_same, Nat.sub_self]
    rfl
  · by_cases h2 : i + 1 ≤ t ∧ t < i + 1 + xs.length
    · rw [if_pos h2, if_pos (by omega), show t - i = (t - (i + 1)) + 1 by omega, List.getElem?_cons_succ]
    · rw [if_neg h2, if_neg (by omega), Tr.get_other DT A i t _ (show i < 2 ^ 8 by omega) ht h1]
theorem enter_frame {xs : List AV} {vs : List Value} {m : Nat} (hv : All2 (VV E) xs vs) (hm : Nat.max m xs.length ≤ 256) : AR E (setArgs xs 0 (.lf none)) (Nat.max m xs.length) { tmps := vs.toArray ++ Array.replicate (m - vs.toArray.size) undef, defers := [] } := by
 have hlen : xs.length = vs.length := hv.length
 have hmax1 : m ≤ Nat.max m xs.length := Nat.le_max_left _ _
 have hmax2 : xs.length ≤ Nat.max m xs.length := Nat.le_max_right _ _
 refine ⟨?_, hm, rfl, fun t x ht hx => ?_⟩
 · simp only [Array.size_append, Array.size_replicate, List.size_toArray, ← hlen]
   rcases Nat.le_total m xs.length with h1 | h1
   · have : Nat.max m xs.length = xs.length := Nat.max_eq_right h1
     omega
   · have : Nat.max m xs.length = m := Nat.max_eq_left h1
     omega
 · rw [setArgs_get xs 0 _ (by omega) t ht] at hx
   split at hx
   · rename_i h1
     rw [Nat.sub_zero] at hx
     obtain ⟨v, h2, h3⟩ := hv.get t x hx
     refine ⟨v, ?_, h3⟩
     show (vs.toArray ++ Array.replicate (m - vs.toArray.size) undef)[t]? = some v
     rw [Array.getElem?_append_left (by simp only [List.size_toArray]; omega), List.getElem?_toArray]
     exact h2
   · rw [Tr.get_lf] at hx
     cases hx
/-! ### Results -/
theorem load_ok (hr : Rep w0 E h w) {t : TypeId} {x r : AV} {v : Value} (hv : VV E x v) (he : evLoad P t x h = some r) : ∃ ad u, v = .pointer (some ad) ∧ (loadVar t ad).run P w = .ok u w ∧ VV E r u := by
 unfold evLoad at he
 split at he
 · rename_i k q
   obtain ⟨b, c, hk, hv⟩ := hv
   cases hg : h.get k with
   | none => simp [hg] at he
   | some ob =>
    simp only [hg, Option.bind_some] at he
    split at he
    · rename_i l hl hag
      cases hy : l[q]? with
      | none => simp [hy] at he
      | some y =>
       simp only [hy, Option.map_some, Option.some.injEq] at he
       subst he
       obtain ⟨v, hvv, hc⟩ := cell_at hr hk hg hl hy
       exact ⟨_, v, hv, by simp [loadVar, run_agg hag, run_load, hc], hvv⟩
    · rename_i l hl hag
      split at he
      · rename_i m hm
        cases hs : seg l q m with
        | none => simp [hs] at he
        | some s =>
         simp only [hs, Option.map_some, Option.some.injEq] at he
         subst he
         obtain ⟨vs, hvs, hlen, hra⟩ := range_at hr hk hg hl hs
         have hl : (loadCells ⟨b, q, none⟩ vs.length).run P w = .ok vs.toArray w :=
          run_loadCells_list (P := P) w ⟨b, q, none⟩ vs (fun j v hv => by rw [Addr.add_mid]; exact hra j v hv)
         rw [hlen] at hl
         exact ⟨_, .agg vs.toArray, hv, by simp [loadVar, run_agg hag, run_size hm, hl], ⟨vs, hvs, rfl⟩⟩
      · cases he
    · cases he
 · cases he
theorem tup_ok : ∀ {xs : List AV} {ys : List A2} {us : List Value}, All2 (VV E) xs us → allSome asV2 xs = some ys → All2 (V2 E) ys us := by
 intro xs
 induction xs with
 | nil =>
  intro ys us h hy
  cases us with
  | nil => cases hy; trivial
  | cons _ _ => exact h.elim
 | cons x xs ih =>
  intro ys us h hy
  cases us with
  | nil => exact h.elim
  | cons u us =>
   unfold allSome at hy
   cases hx : asV2 x with
   | none => simp [hx] at hy
   | some y =>
    cases hz : allSome asV2 xs with
    | none => simp [hx, hz] at hy
    | some ys' =>
     simp only [hx, hz, Option.some.injEq] at hy
     subst hy
     refine ⟨?_, ih h.2 hz⟩
     cases x with
     | v z => cases hx; exact h.1
     | tup l => cases hx
/-- The value of one of a function's results. -/
def resM (tmps : Array Value) : ResultVar → Sem Value
 | .tmp t => pure (tmps.getD t undef)
 | .cell b t => do loadVar t (← asAddr (tmps.getD b undef))
def resA (P : Program) (A : Fr) (h : Hp) : ResultVar → Option AV
 | .tmp t => evA A (.tmp t)
 | .cell a t => (evA A (.tmp a)).bind fun x => evLoad P t x h
theorem res_ok (ha : AR E A n a) (hr : Rep w0 E h w) (r : ResultVar) (x : AV) (he : resA P A h r = some x) : ∃ u, (resM a.tmps r).run P w = .ok u w ∧ VV E x u := by
 cases r with
 | tmp t => exact ⟨_, rfl, evA_ok ha (.tmp t) x he⟩
 | cell b t =>
  have he : (evA A (.tmp b)).bind (fun x => evLoad P t x h) = some x := he
  cases hb : evA A (.tmp b) with
  | none => simp [hb] at he
  | some y =>
   simp only [hb, Option.bind_some] at he
   have hy := evA_ok ha (.tmp b) y hb
   obtain ⟨ad, u, h1, h2, h3⟩ := load_ok hr hy he
   refine ⟨u, ?_, h3⟩
   have h1 : a.tmps.getD b undef = .pointer (some ad) := h1
   simp only [resM, h1, asAddr, Sem.run_bind, Sem.run_pure, Result.andThen_ok, h2]
theorem resL_ok (ha : AR E A n a) (hr : Rep w0 E h w) : ∀ (l : List ResultVar) (xs : List AV), allSome (resA P A h) l = some xs → ∃ us : List Value, (l.mapM (resM a.tmps)).run P w = .ok us w ∧ All2 (VV E) xs us
 | [], xs, he => by
  cases he
  exact ⟨[], rfl, trivial⟩
 | r :: l, xs, he => by
  unfold allSome at he
  cases h1 : resA P A h r with
  | none => simp [h1] at he
  | some x =>
   cases h2 : allSome (resA P A h) l with
   | none => simp [h1, h2] at he
   | some ys =>
    simp only [h1, h2, Option.some.injEq] at he
    subst he
    obtain ⟨u, g1, g2⟩ := res_ok ha hr r x h1
    obtain ⟨us, g3, g4⟩ := resL_ok ha hr l ys h2
    exact ⟨u :: us, by simp only [List.mapM_cons, Sem.run_bind, g1, g3, Result.andThen_ok, Sem.run_pure], g2, g4⟩
theorem results_ok (ha : AR E A n a) (hr : Rep w0 E h w) {fn : Func} {v : AV} (he : resultsA P fn A h = some v) : ∃ u, (results fn a.tmps).run P w = .ok u w ∧ VV E v u := by
 have e1 : resultsA P fn A h = match allSome (resA P A h) fn.results.toList with
  | some [v] => some v
  | some vs => (allSome asV2 vs).map .tup
  | none => none := by
  have : (fun r : ResultVar => match r with
   | .tmp t => evA A (.tmp t)
   | .cell a t => (evA A (.tmp a)).bind fun x => evLoad P t x h) = resA P A h := by
   funext r
   cases r <;> rfl
  exact congrArg (fun g : ResultVar → Option AV => match allSome g fn.results.toList with
   | some [v] => some v
   | some vs => (allSome asV2 vs).map .tup
   | none => none) this
 rw [e1] at he
 have e2 : results fn a.tmps = (do
  let vs ← fn.results.mapM (resM a.tmps)
  pure (if h : vs.size = 1 then vs[0] else .tuple vs)) := by
  unfold results
  have : (fun r : ResultVar => match r with
   | .tmp t => (pure (a.tmps.getD t undef) : Sem Value)
   | .cell b t => do loadVar t (← asAddr (a.tmps.getD b undef))) = resM a.tmps := by
   funext r
   cases r <;> rfl
  exact congrArg (fun g : ResultVar → Sem Value => (do
   let vs ← fn.results.mapM g
   pure (if h : vs.size = 1 then vs[0] else .tuple vs) : Sem Value)) this
 have hmap : ∀ us : List Value, (fn.results.toList.mapM (resM a.tmps)).run P w = .ok us w → (fn.results.mapM (resM a.tmps)).run P w = .ok us.toArray w := by
  intro us hus
  have e3 : fn.results = fn.results.toList.toArray := by simp
  conv => lhs; rw [e3]
  rw [List.mapM_toArray, Sem.run_map, hus]
  rfl
 split at he
 · rename_i y hy
   cases he
   obtain ⟨us, g1, g2⟩ := resL_ok ha hr _ _ hy
   cases us with
   | nil => exact g2.elim
   | cons u us =>
    cases us with
    | cons _ _ => exact g2.2.elim
    | nil =>
     refine ⟨u, ?_, g2.1⟩
     rw [e2, Sem.run_bind, hmap _ g1]
     rfl
 · rename_i xs hne hy
   cases hz : allSome asV2 xs with
   | none => simp [hz] at he
   | some ys =>
    simp only [hz, Option.map_some, Option.some.injEq] at he
    subst he
    obtain ⟨us, g1, g2⟩ := resL_ok ha hr _ _ hy
    refine ⟨.tuple us.toArray, ?_, us, tup_ok g2 hz, rfl⟩
    rw [e2, Sem.run_bind, hmap _ g1]
    have hsz : ¬ us.toArray.size = 1 := by
     intro h1
     have h2 := g2.length
     simp only [List.size_toArray] at h1
     rw [h1] at h2
     obtain ⟨x, rfl⟩ := List.length_eq_one_iff.1 h2
     exact hne x rfl
    simp only [Result.andThen_ok, Sem.run_pure, dif_neg hsz]
 · cases he
/-! ### Code -/
def toExit : X → Exit
 | .normal => .normal
 | .exit id => .exit id
 | .ret => .ret
def Post (w0 : Base) (E : List Ent) (x : X) (s : St) : Exit → Act → World → Prop := fun e a' w' => e = toExit x ∧ ∃ E', Pre E E' ∧ AR E' s.A s.n a' ∧ Rep w0 E' s.h w'
theorem Post.pre {x : X} {s : St} {e : Exit} (hp : Pre E E') (h : Post w0 E' x s e a w) : Post w0 E x s e a w := by
 obtain ⟨h1, E2, h2, h3, h4⟩ := h
 exact ⟨h1, E2, hp.trans h2, h3, h4⟩
theorem Post.noPanic {x : X} {s : St} (c : List PanicEntry) (a : Act) (w : World) : ¬ Post w0 E x s (.panic c) a w := by
 rintro ⟨h, _⟩
 cases x <;> cases h
/-- The code at the end of a way in a function. -/
def AtWay (P : Program) (f : Nat) (p : List Bool) (c : Code) : Prop := ∃ fn b, P.funcs[f]? = some fn ∧ fn.body = some b ∧ codeR p b = some c
theorem AtWay.step {P : Program} {f : Nat} {p : List Bool} {c c' : Code} {d : Bool} (h : AtWay P f p c) (hd : child d c = some c') : AtWay P f (d :: p) c' := by
 obtain ⟨fn, b, h1, h2, h3⟩ := h
 refine ⟨fn, b, h1, h2, ?_⟩
 show (codeR p b).bind (child d) = some c'
 rw [h3]
 exact hd
/-- What is known of loops. -/
def LoOk (P : Program) (w0 : Base) (lo : Nat → List Bool → St → Option (X × St)) : Prop := ∀ (f : Nat) (p : List Bool) (s s' : St) (x : X), lo f p s = some (x, s') → ∀ (c : Code), AtWay P f p c → ∀ (E : List Ent) (a : Act) (w : World), AR E s.A s.n a → Rep w0 E s.h w → c.wp P (Post w0 E x s') a w
structure HkOk (P : Program) (w0 : Base) (H : Hk) : Prop where
 ex : CallOk P w0 H.ex
 ru : RuOk P w0 H.ru
 rp : RpOk P H.rp
 lo : LoOk P w0 H.lo
def CodeOk (P : Program) (w0 : Base) (ev : EvT) : Prop := ∀ (f : Nat) (p : List Bool) (c : Code) (s s' : St) (x : X), ev f p c s = some (x, s') → AtWay P f p c → ∀ (E : List Ent) (a : Act) (w : World), AR E s.A s.n a → Rep w0 E s.h w → c.wp P (Post w0 E x s') a w
theorem callA_ok {H : Hk} (hext : CallOk P w0 H.ex) (hng : ∀ (f : Nat) (fn : Func), P.funcs[f]? = some fn → (fn.name == "runtime.NumGoroutine") = false) {ev : EvT} (hev : CodeOk P w0 ev) : CallOk P w0 (callA P H ev) := by
 intro f xs h y h' hc E w vs hvs hr
 unfold callA at hc
 split at hc
 · rename_i r hk
   cases hc
   exact hext f xs h y h' hk E w vs hvs hr
 · rename_i hk
   split at hc
   · rename_i fn hf
     split at hc
     · rename_i b hb
       split at hc
       · rename_i hmax
         rw [fArgs_eq] at hc
         have hrun : (callFunc f vs.toArray).run P w = .ok (.enter f vs.toArray) w := by
          simp only [callFunc, Sem.run_bind, run_program, Result.andThen_ok, hf, hng f fn hf, Bool.false_eq_true, if_false, hb, Option.isNone_some, Sem.run_pure]
         have go : ∀ (x : X) (s' : St), (x = .normal ∨ x = .ret) → ev f [] b ⟨setArgs xs 0 (.lf none), Nat.max fn.ntmps xs.length, h⟩ = some (x, s') → (resultsA P fn s'.A s'.h).map (fun v => (v, s'.h)) = some (y, h') → CallDoes P w0 E f vs.toArray w y h' := by
          intro x s' hx he hres
          cases hv : resultsA P fn s'.A s'.h with
          | none => simp [hv] at hres
          | some v =>
           simp only [hv, Option.map_some, Option.some.injEq, Prod.mk.injEq] at hres
           obtain ⟨rfl, rfl⟩ := hres
           refine .inl ⟨hrun, calls_of_wp hf hb ?_⟩
           refine wp_mono (hev f [] b _ s' x he ⟨fn, b, hf, hb, rfl⟩ E _ w (enter_frame hvs hmax) hr) ?_
           rintro e a' w' ⟨rfl, E', hp, ha', hr'⟩
           obtain ⟨u, h1, h2⟩ := results_ok ha' hr' hv
           rcases hx with rfl | rfl
           · exact ⟨ha'.defers, u, h1, u, rfl, E', hp, hr', h2⟩
           · exact ⟨ha'.defers, u, h1, u, rfl, E', hp, hr', h2⟩
         split at hc
         · rename_i s' he
           exact go .normal s' (.inl rfl) he hc
         · rename_i s' he
           exact go .ret s' (.inr rfl) he hc
         · cases hc
       · cases hc
     · cases hc
   · cases hc
theorem rounds_mono {c : Code} {Q Q' : Exit → Act → World → Prop} (hq : ∀ e a w, Q e a w → Q' e a w) : ∀ (n : Nat) (a : Act) (w : World), Code.rounds P c Q n a w → Code.rounds P c Q' n a w
 | 0, _, _, h => h
 | n + 1, a, w, h => by
  rw [rounds_succ] at h ⊢
  refine wp_mono h ?_
  intro e a' w' hx
  cases e with
  | normal => exact rounds_mono hq n a' w' hx
  | exit id => exact hq _ _ _ hx
  | goto l => exact hq _ _ _ hx
  | ret => exact hq _ _ _ hx
  | panic ch => exact hq _ _ _ hx
  | outgrown => exact hq _ _ _ hx
theorem evCode_ok (hm : P.follows .mixedOrders = true) {H : Hk} (hk : HkOk P w0 H) (hng : ∀ (f : Nat) (fn : Func), P.funcs[f]? = some fn → (fn.name == "runtime.NumGoroutine") = false) : ∀ n, CodeOk P w0 (evCode P H n) ∧ ∀ (f : Nat) (p : List Bool) (b : Code) (s s' : St) (x : X), evCode P H n f p (.loop b) s = some (x, s') → AtWay P f p (.loop b) → ∀ (E : List Ent) (a : Act) (w : World), AR E s.A s.n a → Rep w0 E s.h w → Code.rounds P b (Post w0 E x s') n a w := by
 intro n
 induction n with
 | zero => exact ⟨fun f p c s s' x h => (nomatch h), fun f p b s s' x h => (nomatch h)⟩
 | succ n ih =>
  obtain ⟨ih1, ih2⟩ := ih
  have hcall := callA_ok hk.ex hng ih1
  have hloop : ∀ (f : Nat) (p : List Bool) (b : Code) (s s' : St) (x : X), evCode P H (n + 1) f p (.loop b) s = some (x, s') → AtWay P f p (.loop b) → ∀ (E : List Ent) (a : Act) (w : World), AR E s.A s.n a → Rep w0 E s.h w → Code.rounds P b (Post w0 E x s') (n + 1) a w := by
   intro f p b s s' x he hat E a w ha hr
   have hat1 := hat.step (d := false) rfl
   unfold evCode at he
   simp only at he
   rw [rounds_succ]
   split at he
   · rename_i s1 h1
     refine wp_mono (ih1 f _ b s s1 .normal h1 hat1 E a w ha hr) ?_
     rintro e a' w' ⟨rfl, E', hp, ha', hr'⟩
     exact rounds_mono (fun e a w h => Post.pre hp h) n a' w' (ih2 f p b s1 s' x he hat E' a' w' ha' hr')
   · rename_i r hne
     cases hx : x with
     | normal =>
      subst hx
      exact (hne s' he).elim
     | exit id =>
      subst hx
      refine wp_mono (ih1 f _ b s s' _ he hat1 E a w ha hr) ?_
      rintro e a' w' ⟨rfl, h⟩
      exact ⟨rfl, h⟩
     | ret =>
      subst hx
      refine wp_mono (ih1 f _ b s s' _ he hat1 E a w ha hr) ?_
      rintro e a' w' ⟨rfl, h⟩
      exact ⟨rfl, h⟩
  refine ⟨?_, hloop⟩
  intro f p c s s' x he hat E a w ha hr
  have he0 := he
  unfold evCode at he
  skip
  split at he
  · cases he
    exact wp_skip ⟨rfl, E, Pre.refl E, ha, hr⟩
  · cases he
    exact wp_label ⟨rfl, E, Pre.refl E, ha, hr⟩
  · rename_i id ops
    split at he
    · rename_i s1 h1
      injection he with he
      injection he with e1 e2
      subst e1
      subst e2
      exact wp_region_list (doOps_ok hcall hk.ru _ s s1 E a w h1 ha hr (fun E' a' w' hp ha' hr' => ⟨rfl, E', hp, ha', hr'⟩))
    · cases he
  · rename_i id ops
    split at he
    · rename_i s1 h1
      injection he with he
      injection he with e1 e2
      subst e1
      subst e2
      exact doDrawn_ok hm hcall hk.ru hk.rp h1 ha hr Post.noPanic (fun E' a' w' hp ha' hr' => ⟨rfl, E', hp, ha', hr'⟩)
    · cases he
  · rename_i c1 c2
    refine wp_seq ?_
    split at he
    · rename_i s1 h1
      refine wp_mono (ih1 f _ c1 s s1 .normal h1 (hat.step (d := false) rfl) E a w ha hr) ?_
      rintro e a' w' ⟨rfl, E', hp, ha', hr'⟩
      exact wp_mono (ih1 f _ c2 s1 s' x he (hat.step (d := true) rfl) E' a' w' ha' hr') (fun e a w h => Post.pre hp h)
    · rename_i r hne
      cases hx : x with
      | normal =>
       subst hx
       exact (hne s' he).elim
      | exit id =>
       subst hx
       refine wp_mono (ih1 f _ c1 s s' _ he (hat.step (d := false) rfl) E a w ha hr) ?_
       rintro e a' w' ⟨rfl, h⟩
       exact ⟨rfl, h⟩
      | ret =>
       subst hx
       refine wp_mono (ih1 f _ c1 s s' _ he (hat.step (d := false) rfl) E a w ha hr) ?_
       rintro e a' w' ⟨rfl, h⟩
       exact ⟨rfl, h⟩
  · rename_i y c1 c2
    split at he
    · rename_i hy
      exact wp_cond_true (evA_ok ha y _ hy) (ih1 f _ c1 s s' x he (hat.step (d := false) rfl) E a w ha hr)
    · rename_i hy
      exact wp_cond_false (evA_ok ha y _ hy) (ih1 f _ c2 s s' x he (hat.step (d := true) rfl) E a w ha hr)
    · cases he
  · rename_i id b
    split at he
    · rename_i r hlo
      injection he with he
      subst he
      exact hk.lo f p s s' x hlo _ hat E a w ha hr
    · refine wp_block ?_
      split at he
      · rename_i j s1 h1
        refine wp_mono (ih1 f _ b s s1 _ h1 (hat.step (d := false) rfl) E a w ha hr) ?_
        rintro e a' w' ⟨rfl, h⟩
        show if j = id then _ else _
        split at he
        · rename_i hj
          cases he
          rw [if_pos hj]
          exact ⟨rfl, h⟩
        · rename_i hj
          cases he
          rw [if_neg hj]
          exact ⟨rfl, h⟩
      · rename_i r hne
        cases hx : x with
        | normal =>
         subst hx
         refine wp_mono (ih1 f _ b s s' _ he (hat.step (d := false) rfl) E a w ha hr) ?_
         rintro e a' w' ⟨rfl, h⟩
         exact ⟨rfl, h⟩
        | exit j =>
         subst hx
         exact (hne j s' he).elim
        | ret =>
         subst hx
         refine wp_mono (ih1 f _ b s s' _ he (hat.step (d := false) rfl) E a w ha hr) ?_
         rintro e a' w' ⟨rfl, h⟩
         exact ⟨rfl, h⟩
  · rename_i b
    exact wp_loop_rounds (n + 1) (hloop f p b s s' x he0 hat E a w ha hr)
  · cases he
    exact wp_exit ⟨rfl, E, Pre.refl E, ha, hr⟩
  · cases he
    exact wp_ret ⟨rfl, E, Pre.refl E, ha, hr⟩
  · cases he
end
end Go.Ev
namespace Go.Ev
open Go Go.RowKit
variable [Sy]
section
variable {E : List Ent} {P : Program} {w0 : Base} {w : World} {h : Hp}
theorem u8_of {c d : Nat} (hc : c < 256) (hd : d < 256) : (UInt8.ofNat c == UInt8.ofNat d) = decide (c = d) := by
 by_cases he : c = d
 · subst he
   simp
 · have : UInt8.ofNat c ≠ UInt8.ofNat d := fun e => he (by
    have := congrArg UInt8.toNat e
    simp only [UInt8.toNat_ofNat'] at this
    omega)
   simp [this, he]
theorem idxB_eq {c : Nat} (hc : c < 256) : ∀ (l : List Nat) (i : Nat), (∀ x ∈ l, x < 256) → idxB c l i = if Lib.indexByte (l.map UInt8.ofNat) (UInt8.ofNat c) = -1 then -1 else Lib.indexByte (l.map UInt8.ofNat) (UInt8.ofNat c) + i
 | [], i, _ => rfl
 | a :: l, i, hl => by
  have ha := hl a List.mem_cons_self
  have ih := idxB_eq hc l (i + 1) (fun x hx => hl x (List.mem_cons_of_mem _ hx))
  have hge := Lib.indexByte_ge (l.map UInt8.ofNat) (UInt8.ofNat c)
  unfold idxB
  rw [List.map_cons]
  unfold Lib.indexByte
  rw [u8_of ha hc]
  by_cases he : a = c
  · subst he
    simp
  · simp only [he, decide_false, Bool.false_eq_true, if_false, ih]
    by_cases h1 : Lib.indexByte (l.map UInt8.ofNat) (UInt8.ofNat c) = -1
    · simp [h1]
    · have h2 : (Lib.indexByte (l.map UInt8.ofNat) (UInt8.ofNat c) == -1) = false := by simpa using h1
      rw [if_neg h1, h2]
      simp only [Bool.false_eq_true, if_false]
      rw [if_neg (by omega)]
      omega
theorem idxB_zero {c : Nat} (hc : c < 256) {l : List Nat} (hl : ∀ x ∈ l, x < 256) : idxB c l 0 = Lib.indexByte (l.map UInt8.ofNat) (UInt8.ofNat c) := by
 rw [idxB_eq hc l 0 hl]
 split
 · rename_i h1
   exact h1.symm
 · simp
theorem cntB_eq {c : Nat} (hc : c < 256) : ∀ (l : List Nat), (∀ x ∈ l, x < 256) → cntB c l = Lib.countByte (l.map UInt8.ofNat) (UInt8.ofNat c)
 | [], _ => rfl
 | a :: l, hl => by
  have ha := hl a List.mem_cons_self
  have ih := cntB_eq hc l (fun x hx => hl x (List.mem_cons_of_mem _ hx))
  unfold cntB Lib.countByte
  rw [List.map_cons, List.count_cons, u8_of ha hc, ih]
  unfold Lib.countByte
  by_cases he : a = c <;> simp [he] <;> omega
theorem byteL_ok (hr : Rep w0 E h w) {x : AV} {l : List Nat} {v : Value} (hx : byteL h x = some l) (hv : VV E x v) : (Extern.Bytes.bytesOf v).run P w = .ok (bytes l) w ∧ ∀ c ∈ l, c < 256 := by
 unfold byteL at hx
 split at hx
 · cases hx
   obtain ⟨rfl, h2⟩ := hv
   exact ⟨rfl, h2⟩
 · cases hx
   have e1 : v = .slice none 0 0 := hv
   subst e1
   exact ⟨rfl, by simp⟩
 · cases hx
   obtain ⟨b, c, hk, e1⟩ := hv
   subst e1
   exact ⟨rfl, by simp⟩
 · unfold cellsIn at hx
   split at hx
   · rename_i k o n cp _ _ _
     obtain ⟨b, c, hk, rfl, _⟩ := hv
     cases hg : h.get k with
     | none => simp [hg] at hx
     | some q =>
      cases hq : rowOf q with
      | none => simp [hg, hq] at hx
      | some cs =>
       simp only [hg, hq, Option.bind_some, Nat.mul_one] at hx
       cases hs : seg cs o n with
       | none => simp [hs] at hx
       | some m =>
        simp only [hs, Option.bind_some] at hx
        obtain ⟨vs, a1, a2, a3⟩ := range_at hr hk hg hq hs
        obtain ⟨a4, a5⟩ := u8s_ok a1 hx
        refine ⟨?_, a5⟩
        have hlen : l.length = n := by
         have := congrArg List.length a4
         rw [List.length_map] at this
         omega
        have hrun := Lib.run_loadBytesX (P := P) w (l.map fun (c : Nat) => (c : Int)) ⟨b, o, none⟩ .empty (fun j y hj => by
         rw [List.getElem?_map] at hj
         cases hc : l[j]? with
         | none => simp [hc] at hj
         | some d =>
          simp only [hc, Option.map_some, Option.some.injEq] at hj
          subst hj
          rw [Addr.add_mid]
          refine a3 j _ ?_
          rw [a4, List.getElem?_map, hc]
          rfl)
        rw [List.length_map, hlen] at hrun
        show (Extern.Bytes.loadBytes ⟨b, o, none⟩ n .empty).run P w = _
        rw [hrun]
        congr 1
        apply ByteArray.ext
        show (#[] : Array UInt8) ++ (Lib.bytesOf (l.map fun (c : Nat) => (c : Int))).toArray = (l.map UInt8.ofNat).toArray
        simp only [List.append_toArray, List.nil_append]
        congr 1
        unfold Lib.bytesOf
        rw [List.map_map]
        rfl
   · cases hx
theorem run_index_bytes {v : Value} {l : List Nat} {c : Nat} (hb : (Extern.Bytes.bytesOf v).run P w = .ok (bytes l) w) (hl : ∀ x ∈ l, x < 256) (hc : c < 256) : (Extern.BytealgIndexByte.indexByte #[v, .int .u8 (c : Nat)]).run P w = .ok (.int .i64 (idxB c l 0)) w := by
 have h1 := Lib.run_indexByteString (P := P) (bytes l) (c : Int) w
 have h2 : (Extern.BytealgIndexByte.indexByte #[v, .int .u8 (c : Nat)]).run P w = (Extern.BytealgIndexByte.indexByte #[.string (bytes l), .int .u8 (c : Nat)]).run P w := by
  show ((Extern.Bytes.bytesOf v) >>= _ : Sem Value).run P w = ((Extern.Bytes.bytesOf (.string (bytes l))) >>= _ : Sem Value).run P w
  rw [Sem.run_bind, Sem.run_bind, hb]
  rfl
 rw [h2, h1, idxB_zero hc hl]
 congr 2
theorem run_count_bytes {v : Value} {l : List Nat} {c : Nat} (hb : (Extern.Bytes.bytesOf v).run P w = .ok (bytes l) w) (hl : ∀ x ∈ l, x < 256) (hc : c < 256) : (Extern.BytealgCount.count #[v, .int .u8 (c : Nat)]).run P w = .ok (.int .i64 (cntB c l)) w := by
 have h1 := Lib.run_countString (P := P) (bytes l) (c : Int) w
 have h2 : (Extern.BytealgCount.count #[v, .int .u8 (c : Nat)]).run P w = (Extern.BytealgCount.count #[.string (bytes l), .int .u8 (c : Nat)]).run P w := by
  show ((Extern.Bytes.bytesOf v) >>= _ : Sem Value).run P w = ((Extern.Bytes.bytesOf (.string (bytes l))) >>= _ : Sem Value).run P w
  rw [Sem.run_bind, Sem.run_bind, hb]
  rfl
 rw [h2, h1, cntB_eq hc l hl]
 congr 2
/-- A function that looks for a byte, or counts it, is what evExt tells. -/
theorem ext12_ok {f k : Nat} {fn : Func} (hf : P.funcs[f]? = some fn) (hname : (fn.name == "runtime.NumGoroutine") = false) (hb : fn.body.isNone = true) (hn : Extern.findNext fn = none)
  (he : (k = 1 ∧ Extern.find fn = some Extern.BytealgIndexByte.indexByte) ∨ (k = 2 ∧ Extern.find fn = some Extern.BytealgCount.count)) {xs : List AV} {h : Hp} {y : AV} (hy : evExt k h xs = some y) {E : List Ent} {w : World} {vs : List Value} (hvs : All2 (VV E) xs vs) (hr : Rep w0 E h w) : CallDoes P w0 E f vs.toArray w y h := by
 unfold evExt at hy
 split at hy
 · rename_i x c
   split at hy
   · rename_i hc
     split at hy
     · rename_i l hl
       cases vs with
       | nil => exact hvs.elim
       | cons v vs =>
        cases vs with
        | nil => exact hvs.2.elim
        | cons u vs =>
         cases vs with
         | cons _ _ => exact hvs.2.2.elim
         | nil =>
          have hv := hvs.1
          have hu : u = .int .u8 (c : Nat) := hvs.2.1
          subst hu
          obtain ⟨hbo, hlt⟩ := byteL_ok (P := P) hr hl hv
          refine .inr ?_
          rcases he with ⟨rfl, he⟩ | ⟨rfl, he⟩
          · rw [show byteExt 1 c l = some (.v (.one (.i .i64 (idxB c l 0)))) from rfl] at hy
            cases hy
            refine ⟨_, ?_, rfl, hr⟩
            rw [run_callFunc_extern hf hname hb hn he, run_index_bytes hbo hlt hc]
            rfl
          · rw [show byteExt 2 c l = some (.v (.one (.i .i64 (cntB c l)))) from rfl] at hy
            cases hy
            refine ⟨_, ?_, rfl, hr⟩
            rw [run_callFunc_extern hf hname hb hn he, run_count_bytes hbo hlt hc]
            rfl
     · cases hy
   · cases hy
 · rename_i c k' o n cp
   split at hy
   · rename_i hk
     rcases he with ⟨rfl, _⟩ | ⟨rfl, _⟩
     · exact absurd hk.1 (by decide)
     · exact absurd hk.1 (by decide)
   · cases hy
 · cases hy
end
end Go.Ev
namespace Go.Ev
open Go Go.RowKit Go.Proofs
theorem xor_u32 (a b : Nat) (ha : a < 2 ^ 32) (hb : b < 2 ^ 32) : bits .xor .u32 a b = ((a ^^^ b : Nat) : Int) := by
 have hx : a ^^^ b < 2 ^ 32 := Nat.xor_lt_two_pow ha hb
 simp only [bits, BitVec.ofInt_natCast, BitVec.toNat_xor, BitVec.toNat_ofNat]
 rw [show IntKind.u32.bits = 32 from rfl, Nat.mod_eq_of_lt ha, Nat.mod_eq_of_lt hb, IntKind.wrap_u32]
 omega
theorem and1_u32 (a : Nat) (ha : a < 2 ^ 32) : bits .and .u32 a 1 = ((a % 2 : Nat) : Int) := by
 simp only [bits]
 rw [show ((1 : Int)) = ((1 : Nat) : Int) from rfl]
 simp only [BitVec.ofInt_natCast, BitVec.toNat_and, BitVec.toNat_ofNat]
 rw [show IntKind.u32.bits = 32 from rfl, Nat.mod_eq_of_lt ha, Nat.mod_eq_of_lt (show 1 < 2 ^ 32 by decide), IntKind.wrap_u32, Nat.and_one_is_mod]
 omega
theorem cBit_lt {c : Nat} (h : c < 2 ^ 32) : cBit c < 2 ^ 32 := by
 unfold cBit
 cases Nat.beq (Nat.mod c 2) 1
 · show Nat.div c 2 < _
   have : Nat.div c 2 = c / 2 := rfl
   omega
 · show Nat.xor (Nat.div c 2) 2197175160 < _
   refine Nat.xor_lt_two_pow ?_ (by decide)
   have : Nat.div c 2 = c / 2 := rfl
   omega
theorem cBits_succ (n c : Nat) : cBits (n + 1) c = cBits n (cBit c) := by
 show fN (cBit c) (fun c => cBits n c) = _
 rw [fN_eq]
theorem cBits_lt : ∀ (n : Nat) {c : Nat}, c < 2 ^ 32 → cBits n c < 2 ^ 32
 | 0, _, h => h
 | n + 1, c, h => by
  rw [cBits_succ]
  exact cBits_lt n (cBit_lt h)
theorem cBytes_cons (b : Nat) (l : List Nat) (c : Nat) : cBytes (b :: l) c = cBytes l (cBits 8 (c ^^^ b)) := by
 show fN (cBits 8 (Nat.xor c b)) (fun c => cBytes l c) = _
 rw [fN_eq]
 rfl
theorem cBit_odd {c : Nat} (h : c % 2 = 1) : cBit c = c / 2 ^^^ 2197175160 := by
 have : Nat.beq (Nat.mod c 2) 1 = true := by rw [Nat.beq_eq]; exact h
 unfold cBit
 rw [this]
 rfl
theorem cBit_even {c : Nat} (h : ¬ c % 2 = 1) : cBit c = c / 2 := by
 have : Nat.beq (Nat.mod c 2) 1 = false := by
  cases hb : Nat.beq (Nat.mod c 2) 1 with
  | false => rfl
  | true => exact absurd (Nat.eq_of_beq_eq_true hb) h
 unfold cBit
 rw [this]
 rfl
set_option maxHeartbeats 4000000 in
set_option maxRecDepth 100000 in
theorem more_calls (b off n cp s : Nat) (l : List Nat) (hl : ∀ x ∈ l, x < 256) (hn : l.length = n) (hbig : n ≤ 9223372036854775806) (hs : s < 2 ^ 32) (w : World) (hc : ∀ j x, l[j]? = some x → w.cell? ⟨b, off + j, none⟩ = some (.int .u8 (x : Nat))) :
  Calls Tryz.prog 238 #[.int .u32 s, .slice (some ⟨b, off, none⟩) n cp] w fun e w' => e = .returned (.int .u32 ((4294967295 ^^^ cBytes l (4294967295 ^^^ s) : Nat) : Int)) ∧ w' = w := by
 have HC := Lib.hid hc
 have HN := Lib.hid hn
 have HL := Lib.hid hl
 have hmax : IntKind.u32.max = ((4294967295 : Nat) : Int) := by decide
 have h0 : ∀ s : Nat, s < 2 ^ 32 → bits .xor .u32 IntKind.u32.max (s : Int) = ((4294967295 ^^^ s : Nat) : Int) := fun s hs => by rw [hmax]; exact xor_u32 4294967295 s (by decide) hs
 have H0 := Lib.hid h0
 have h1 : 4294967295 ^^^ s < 2 ^ 32 := Nat.xor_lt_two_pow (by decide) hs
 clear hc hn hl h0 hmax
 go_enter Tryz.func238, Tryz.ntmps238
 go_wp2
 go_loop [5, 13] (fun c i => ∃ (k x : Nat), k ≤ n ∧ x < 2 ^ 32 ∧ c = .int .u32 x ∧ i = .int .i64 k ∧ Hid (cBytes (l.drop k) x = cBytes l (4294967295 ^^^ s))) (fun _ i => match i with | .int _ m => n - m.toNat | _ => 0)
 case atStart => exact ⟨0, 4294967295 ^^^ s, Nat.zero_le _, h1, by rw [H0.out s hs], rfl, Lib.hid rfl⟩
 case round =>
  obtain ⟨k, x, hk, hx, rfl, rfl, HX⟩ := hrel
  by_cases hlt : k < n
  · obtain ⟨v, hv⟩ : ∃ v, l[k]? = some v := ⟨_, List.getElem?_eq_getElem (by have := HN.out; omega)⟩
    have hv1 := HL.out v (List.mem_of_getElem? hv)
    have hcell := HC.out k v hv
    have hdrop : l.drop k = v :: l.drop (k + 1) := by
     have hkl : k < l.length := by have := HN.out; omega
     rw [List.drop_eq_getElem_cons hkl]
     rw [List.getElem?_eq_getElem hkl] at hv
     rw [Option.some.inj hv]
    have HD := Lib.hid hdrop
    have HV := Lib.hid hv
    clear hdrop hv
    have hb1 := cBits_lt 8 (Nat.xor_lt_two_pow hx (show v < 2 ^ 32 by omega))
    have hx1 : bits .xor .u32 (x : Int) (v : Int) = ((x ^^^ v : Nat) : Int) := xor_u32 x v hx (by omega)
    have HX1 := Lib.hid hx1
    clear hx1
    go_wp2
    go_loop [5, 21] (fun c i => ∃ (r y : Nat), r ≤ 8 ∧ y < 2 ^ 32 ∧ c = .int .u32 y ∧ i = .int .i64 r ∧ Hid (cBits (8 - r) y = cBits 8 (x ^^^ v))) (fun _ i => match i with | .int _ m => 8 - m.toNat | _ => 0)
    case atStart => exact ⟨0, x ^^^ v, Nat.zero_le _, Nat.xor_lt_two_pow hx (by omega), by rw [HX1.out], rfl, Lib.hid rfl⟩
    case round =>
     obtain ⟨r, y, hr, hy, rfl, rfl, HY⟩ := hrel
     by_cases hr8 : r < 8
     · have ha := and1_u32 y hy
       have hsucc : cBits (8 - r) y = cBits (8 - (r + 1)) (cBit y) := by
        rw [show 8 - r = (8 - (r + 1)) + 1 by omega, cBits_succ]
       have HS := Lib.hid hsucc
       have hcb := cBit_lt hy
       clear hsucc
       by_cases ho : y % 2 = 1
       · have c1 : ((bits .and .u32 (y : Int) 1) == 1) = true := by rw [ha, ho]; rfl
         have hbit := cBit_odd ho
         have hx2 : bits .xor .u32 ((y : Int) / 2) 2197175160 = ((cBit y : Nat) : Int) := by
          rw [hbit, show (y : Int) / 2 = ((y / 2 : Nat) : Int) by omega]
          exact xor_u32 (y / 2) 2197175160 (by omega) (by decide)
         have HA := Lib.hid ha
         have HB := Lib.hid hbit
         have H2 := Lib.hid hx2
         clear ha hbit hx2
         go_wp2
         go_round
         case rel => exact ⟨r + 1, cBit y, by omega, hcb, by rw [H2.out], by simp, Lib.hid (by rw [← HS.out]; exact HY.out)⟩
         case measure => simp; omega
       · have c1 : ((bits .and .u32 (y : Int) 1) == 1) = false := by
          rw [ha]
          have : y % 2 = 0 := by omega
          rw [this]
          rfl
         have hbit := cBit_even ho
         have hx2 : ((y : Int) / 2) = ((cBit y : Nat) : Int) := by
          rw [hbit]
          omega
         have HA := Lib.hid ha
         have HB := Lib.hid hbit
         have H2 := Lib.hid hx2
         clear ha hbit hx2
         go_wp2
         go_round
         case rel => exact ⟨r + 1, cBit y, by omega, hcb, by rw [H2.out], by simp, Lib.hid (by rw [← HS.out]; exact HY.out)⟩
         case measure => simp; omega
     · go_wp2
       go_round
       have hr8' : r = 8 := by omega
       subst hr8'
       case rel => exact ⟨k + 1, y, by omega, hy, rfl, by simp, Lib.hid (by
        have h2 := HX.out
        rw [HD.out, cBytes_cons, ← HY.out] at h2
        exact h2)⟩
       case measure => simp; omega
  · go_wp2
    go_ret
    have hkn : k = n := by omega
    subst hkn
    refine ⟨?_, rfl⟩
    have := HX.out
    rw [List.drop_of_length_le (by have := HN.out; omega)] at this
    rw [H0.out x hx, ← this]
    rfl
end Go.Ev
namespace Go.Ev
open Go Go.RowKit
section
variable {α β : Type}
noncomputable def gT : Nat → Tr α → Nat → Option α := fun d => Nat.rec (motive := fun _ => Tr α → Nat → Option α) (fun t _ => Tr.rec (motive := fun _ => Option α) (fun o => o) (fun _ _ _ _ => none) t) (fun _ ih t k => Tr.rec (motive := fun _ => Option α) (fun _ => none) (fun l r _ _ => Bool.rec (motive := fun _ => Option α) (ih r (Nat.div k 2)) (ih l (Nat.div k 2)) (Nat.beq (Nat.mod k 2) 0)) t) d
noncomputable def sT : Nat → Tr α → Nat → Option α → (Tr α → β) → β := fun d => Nat.rec (motive := fun _ => Tr α → Nat → Option α → (Tr α → β) → β) (fun _ _ o c => c (.lf o)) (fun _ ih t k o c => Tr.rec (motive := fun _ => β) (fun _ => Bool.rec (motive := fun _ => β) (ih (.lf none) (Nat.div k 2) o fun r => c (.nd (.lf none) r)) (ih (.lf none) (Nat.div k 2) o fun l => c (.nd l (.lf none))) (Nat.beq (Nat.mod k 2) 0)) (fun l r _ _ => Bool.rec (motive := fun _ => β) (ih r (Nat.div k 2) o fun r => c (.nd l r)) (ih l (Nat.div k 2) o fun l => c (.nd l r)) (Nat.beq (Nat.mod k 2) 0)) t) d
theorem gT_eq : ∀ (d : Nat) (t : Tr α) (k : Nat), gT d t k = Tr.get d t k
 | 0, .lf _, _ => rfl
 | 0, .nd _ _, _ => rfl
 | d + 1, .lf _, _ => rfl
 | d + 1, .nd l r, k => by
  rw [Tr.get_nd, ← gT_eq d l, ← gT_eq d r]
  show (Bool.rec (motive := fun _ => Option α) (gT d r (k / 2)) (gT d l (k / 2)) (Nat.beq (k % 2) 0)) = _
  cases Nat.beq (k % 2) 0 <;> rfl
theorem sT_eq : ∀ (d : Nat) (t : Tr α) (k : Nat) (o : Option α) (c : Tr α → β), sT d t k o c = c (Tr.set d t k o)
 | 0, _, _, _, _ => rfl
 | d + 1, .nd l r, k, o, c => by
  rw [Tr.set_nd]
  show (Bool.rec (motive := fun _ => β) (sT d r (k / 2) o fun r => c (.nd l r)) (sT d l (k / 2) o fun l => c (.nd l r)) (Nat.beq (k % 2) 0)) = _
  rw [sT_eq d, sT_eq d]
  cases Nat.beq (k % 2) 0 <;> rfl
 | d + 1, .lf x, k, o, c => by
  rw [Tr.set_lf]
  show (Bool.rec (motive := fun _ => β) (sT d (.lf none) (k / 2) o fun r => c (.nd (.lf none) r)) (sT d (.lf none) (k / 2) o fun l => c (.nd l (.lf none))) (Nat.beq (k % 2) 0)) = _
  rw [sT_eq d, sT_eq d]
  cases Nat.beq (k % 2) 0 <;> rfl
/-- Lists, item by item. -/
noncomputable def gL (f : α → (α → β) → β) (l : List α) : (List α → β) → β := List.rec (motive := fun _ => (List α → β) → β) (fun k => k []) (fun a _ ih k => f a fun a => ih fun l => k (a :: l)) l
theorem gL_eq {f : α → (α → β) → β} (hf : ∀ a k, f a k = k a) : ∀ (l : List α) (k : List α → β), gL f l k = k l
 | [], _ => rfl
 | a :: l, k => by
  show f a (fun a => gL f l fun l => k (a :: l)) = _
  rw [hf, gL_eq hf l]
noncomputable def gN (n : Nat) (k : Nat → β) : β := Nat.rec (motive := fun _ => β) (k 0) (fun m _ => k (Nat.succ m)) n
theorem gN_eq (n : Nat) (k : Nat → β) : gN n k = k n := by cases n <;> rfl
noncomputable def gI (n : Int) (k : Int → β) : β := Int.rec (motive := fun _ => β) (fun m => gN m fun m => k (.ofNat m)) (fun m => gN m fun m => k (.negSucc m)) n
theorem gI_eq (n : Int) (k : Int → β) : gI n k = k n := by cases n <;> simp only [gI, gN_eq]
noncomputable def gC (c : CapE) (k : CapE → β) : β := CapE.rec (motive := fun _ => β) (fun n => gN n fun n => k (.ex n)) (fun n => gN n fun n => k (.un n)) c
theorem gC_eq (c : CapE) (k : CapE → β) : gC c k = k c := by cases c <;> simp only [gC, gN_eq]
noncomputable def g1 (x : A1) (k : A1 → β) : β := A1.rec (motive := fun _ => β) (fun x => fB x fun x => k (.b x)) (fun q n => fK q fun q => gI n fun n => k (.i q n)) (fun l => gL gN l fun l => k (.s l)) (k .nilp) (fun a o => gN a fun a => gN o fun o => k (.p a o)) (k .nils)
 (fun a o n c => gN a fun a => gN o fun o => gN n fun n => gC c fun c => k (.sl a o n c)) (fun a o z b j => gN a fun a => gN o fun o => gN z fun z => gN b fun b => gN j fun j => k (.stl a o z b j)) (k .nilm) (fun a => gN a fun a => k (.m a)) (k .nili) (k .nilf) (fun a => gN a fun a => k (.f a)) (fun a => gN a fun a => k (.clo a)) (fun t a => gN t fun t => gN a fun a => k (.ifc t a)) (fun a => gN a fun a => k (.y a)) (fun a => gN a fun a => k (.c a)) x
theorem g1_eq (x : A1) (k : A1 → β) : g1 x k = k x := by
 cases x <;> simp only [g1, fB_eq, fK_eq, gI_eq, gN_eq, gC_eq]
 rw [gL_eq gN_eq]
noncomputable def g2 (x : A2) (k : A2 → β) : β := A2.rec (motive := fun _ => β) (fun x => g1 x fun x => k (.one x)) (fun l => gL g1 l fun l => k (.agg l)) x
theorem g2_eq (x : A2) (k : A2 → β) : g2 x k = k x := by
 cases x <;> simp only [g2, g1_eq]
 rw [gL_eq g1_eq]
noncomputable def gV (x : AV) (k : AV → β) : β := AV.rec (motive := fun _ => β) (fun x => g2 x fun x => k (.v x)) (fun l => gL g2 l fun l => k (.tup l)) x
theorem gV_eq (x : AV) (k : AV → β) : gV x k = k x := by
 cases x <;> simp only [gV, g2_eq]
 rw [gL_eq g2_eq]
noncomputable def gE (e : A1 × A2 × Nat) (k : A1 × A2 × Nat → β) : β := Prod.rec (motive := fun _ => β) (fun a x => Prod.rec (motive := fun _ => β) (fun b c => g1 a fun a => g2 b fun b => gN c fun c => k (a, b, c)) x) e
theorem gE_eq (x : A1 × A2 × Nat) (k : A1 × A2 × Nat → β) : gE x k = k x := by
 obtain ⟨a, b, c⟩ := x
 simp only [gE, g1_eq, g2_eq, gN_eq]
noncomputable def gO (o : AO) (k : AO → β) : β := AO.rec (motive := fun _ => β) (fun t l => gN t fun t => gL g1 l fun l => k (.cells t l)) (fun t z l => gN t fun t => gN z fun z => gL g1 l fun l => k (.row t z l)) (fun es c => gL gE es fun es => gN c fun c => k (.map es c)) (fun a b l c => gN a fun a => gN b fun b => gL gN l fun l => gN c fun c => k (.iter a b l c))
 (fun s p => gL gN s fun s => gN p fun p => k (.siter s p)) (fun f l => gN f fun f => gL g2 l fun l => k (.clo f l)) (fun t x => gN t fun t => g2 x fun x => k (.ifc t x)) (fun a => gN a fun a => k (.y a)) (fun es => gL (fun (e : A1 × A2) k => g1 e.1 fun a => g2 e.2 fun b => k (a, b)) es fun es => k (.mapx es)) o
theorem gO_eq (x : AO) (k : AO → β) : gO x k = k x := by
 cases x <;> simp only [gO, gN_eq, g2_eq]
 · rw [gL_eq g1_eq]
 · rw [gL_eq g1_eq]
 · rw [gL_eq gE_eq]
 · rw [gL_eq gN_eq]
 · rw [gL_eq gN_eq]
 · rw [gL_eq g2_eq]
 · rw [gL_eq (fun (e : A1 × A2) k => by rw [g1_eq])]
noncomputable def gU (us : List U) : Tr AO → Nat → (Hp → β) → β := List.rec (motive := fun _ => Tr AO → Nat → (Hp → β) → β) (fun t n k => k ⟨t, n⟩)
 (fun u _ ih t n k => U.rec (motive := fun _ => β) (fun a o => gN a fun a => gO o fun o => sT D t a (some o) fun t => ih t n k) (fun o => gO o fun o => sT D t n (some o) fun t => ih t (Nat.succ n) k) (fun a => gN a fun a => sT D t a none fun t => ih t n k) u) us
theorem gU_eq : ∀ (us : List U) (t : Tr AO) (n : Nat) (k : Hp → β), gU us t n k = k (apU ⟨t, n⟩ us)
 | [], _, _, _ => rfl
 | .put a o :: r, t, n, k => by
  show (gN a fun a => gO o fun o => sT D t a (some o) fun t => gU r t n k) = _
  rw [gN_eq, gO_eq, sT_eq, gU_eq r]
  rfl
 | .new o :: r, t, n, k => by
  show (gO o fun o => sT D t n (some o) fun t => gU r t (Nat.succ n) k) = _
  rw [gO_eq, sT_eq, gU_eq r]
  rfl
 | .del a :: r, t, n, k => by
  show (gN a fun a => sT D t a none fun t => gU r t n k) = _
  rw [gN_eq, sT_eq, gU_eq r]
  rfl
/-- The first temporaries. -/
noncomputable def gArgs (l : List AV) : Nat → Fr → (Fr → β) → β := List.rec (motive := fun _ => Nat → Fr → (Fr → β) → β) (fun _ A k => k A) (fun v _ ih i A k => gV v fun v => sT DT A i (some v) fun A => ih (Nat.succ i) A k) l
theorem gArgs_eq : ∀ (l : List AV) (i : Nat) (A : Fr) (k : Fr → β), gArgs l i A k = k (setArgs l i A)
 | [], _, _, _ => rfl
 | v :: l, i, A, k => by
  show (gV v fun v => sT DT A i (some v) fun A => gArgs l (Nat.succ i) A k) = _
  rw [gV_eq, sT_eq, gArgs_eq l]
  rfl
noncomputable def gPut (A : Fr) (n : Nat) (t : Tr AO) (m : Nat) (d : Option Tmp) (v : AV) (us : List U) (k : St → Option β) : Option β :=
 Option.rec (motive := fun _ => Option β) (gU us t m fun h => k ⟨A, n, h⟩) (fun d => Bool.rec (motive := fun _ => Option β) none (gV v fun v => sT DT A d (some v) fun A => gU us t m fun h => k ⟨A, n, h⟩) (Nat.blt d n)) d
theorem gPut_eq (A : Fr) (n : Nat) (t : Tr AO) (m : Nat) (d : Option Tmp) (v : AV) (us : List U) (k : St → Option β) : gPut A n t m d v us k = putF ⟨A, n, ⟨t, m⟩⟩ d v us k := by
 cases d with
 | none => show (gU us t m fun h => k ⟨A, n, h⟩) = (fU ⟨t, m⟩ us fun h => k ⟨A, n, h⟩); rw [gU_eq, fU_eq]
 | some d =>
  show (Bool.rec (motive := fun _ => Option β) none (gV v fun v => sT DT A d (some v) fun A => gU us t m fun h => k ⟨A, n, h⟩) (Nat.blt d n)) = (bif Nat.blt d n then fV v fun v => fTr DT A d (some v) fun A => fU ⟨t, m⟩ us fun h => k ⟨A, n, h⟩ else none)
  rw [gV_eq, sT_eq, gU_eq, fV_eq, fTr_eq, fU_eq]
  cases Nat.blt d n <;> rfl
end
end Go.Ev
