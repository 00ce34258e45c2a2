/- The reckoner is right: drawn regions, second part. -/
import Derived.Test.YtbbefahmamnlcaaGreatDoorEv15
set_option linter.unusedVariables false
set_option linter.unusedSimpArgs false
set_option linter.unusedSectionVars false
namespace Go.Ev
open Go Go.RowKit
section
variable {E E' : List Ent} {A : Fr} {n : Nat} {a : Act} {P : Program} {w0 w w' ws : World} {h h0 : Hp}
/-- Is it a variable that is made? -/
def isAlloc (o : Oper) : Bool := match o.op with | .alloc _ => true | _ => false
theorem allocNo_eq (ops : Array Oper) (i : Nat) : allocNo ops i = ((ops.toList.take i).filter isAlloc).length := rfl
theorem allocNo_lt {ops : Array Oper} {i j : Nat} {o : Oper} (hi : ops[i]? = some o) (ho : isAlloc o = true) (hij : i < j) : allocNo ops i < allocNo ops j := by
 rw [allocNo_eq, allocNo_eq]
 have hi' : ops.toList[i]? = some o := by rw [Array.getElem?_toList]; exact hi
 have e1 : ops.toList.take (i + 1) = ops.toList.take i ++ [o] := by rw [List.take_add_one, hi']; rfl
 have e2 : (ops.toList.take (i + 1)).filter isAlloc = (ops.toList.take i).filter isAlloc ++ [o] := by
  rw [e1, List.filter_append]
  simp [ho]
 have e3 : ((ops.toList.take (i + 1)).filter isAlloc).length ≤ ((ops.toList.take j).filter isAlloc).length := by
  refine List.Sublist.length_le (List.Sublist.filter _ ?_)
  have e4 : ops.toList.take (i + 1) = (ops.toList.take j).take (i + 1) := by rw [List.take_take, Nat.min_eq_left hij]
  rw [e4]
  exact List.take_sublist _ _
 rw [e2, List.length_append] at e3
 exact e3
/-- The names of the variables that are not made yet. -/
def Res (ops : Array Oper) (n0 : Nat) (listed : Array Bool) (E : List Ent) : Prop := ∀ (j : Nat) (o : Oper), ops[j]? = some o → isAlloc o = true → listed.getD j true = false → E[n0 + allocNo ops j]? = some .none
theorem getD_set_keep {listed : Array Bool} {i j : Nat} (h : (listed.setIfInBounds i true).getD j true = false) : listed.getD j true = false ∧ j ≠ i := by
 by_cases hij : j = i
 · subst hij
   exfalso
   rw [Array.getD_eq_getD_getElem?, Array.getElem?_setIfInBounds] at h
   simp only [if_true] at h
   split at h
   · cases h
   · cases h
 · refine ⟨?_, hij⟩
   rw [Array.getD_eq_getD_getElem?, Array.getElem?_setIfInBounds, if_neg (fun e => hij e.symm)] at h
   rw [Array.getD_eq_getD_getElem?]
   exact h
theorem Res.pre {ops : Array Oper} {n0 i : Nat} {listed : Array Bool} (hres : Res ops n0 listed E) (hp : Pre E E') : Res ops n0 (listed.setIfInBounds i true) E' := fun j o hj ho hl => by
 have h1 := hres j o hj ho (getD_set_keep hl).1
 rw [hp.2 _ (List.getElem?_eq_some_iff.1 h1).1]
 exact h1
theorem Agree.pre {n0 : Nat} {E0 : List Ent} (hag : Agree n0 E0 E) (hp : Pre E E') (hn : n0 ≤ E0.length) : Agree n0 E0 E' := ⟨hag.1.trans hp.ext, fun k hk => by rw [hp.2 k (Nat.lt_of_lt_of_le hk (Nat.le_trans hn hag.1.1))]; exact hag.2 k hk⟩
theorem doOpD_ok {call : CallT} (hcall : CallOk P w0 call) {ops : Array Oper} {n0 i : Nat} {s s' : St} {o : Oper} (hi : ops[i]? = some o) (hd : doOpD P call ops n0 i s o = some s') (ha : AR E s.A s.n a) (hr : Rep w0 E s.h w) {listed : Array Bool} (hres : Res ops n0 listed E) (hun : listed.getD i true = false) {E0 : List Ent} (hag : Agree n0 E0 E) (hn0 : n0 ≤ E0.length) {K : Act → World → Prop} {Q : Exit → Act → World → Prop}
  (hK : ∀ E' a' w', Agree n0 E0 E' → Res ops n0 (listed.setIfInBounds i true) E' → AR E' s'.A s'.n a' → Rep w0 E' s'.h w' → K a' w') : if Region.wanted o (yielded ops a.tmps) then o.wp P a w K Q else K (a.put o.dst undef) w := by
 unfold doOpD at hd
 split at hd
 · rename_i e ho
   obtain ⟨A, n, h⟩ := s
   simp only at hd ha hr
   split at hd
   · rename_i z hw hz
     split at hd
     · rename_i hsz
       rw [fN_eq] at hd
       obtain ⟨h1, h2⟩ := putF_ok hd
       cases h2
       rw [wanted_ok ha hw, if_pos rfl]
       obtain ⟨v, hv, hrun⟩ := zero_ok (E := E) hz
       have hal : isAlloc o = true := by unfold isAlloc; rw [ho]
       have hk := hres i o hi hal hun
       have hx : Ext E (E.set (n0 + allocNo ops i) (.blk w.heap.size 0)) := Ext.fill E _ _ hk
       have hrep := hr.fill (c := 0) (ob := .cells v.cells e) (o := .cells e z.cells) hk ⟨v.cells, (0, 0), rfl, .inr rfl, (V2.cells hv).imp (V1.ext hx)⟩
       have hkl : n0 + allocNo ops i < E.length := (List.getElem?_eq_some_iff.1 hk).1
       have hnew : (E.set (n0 + allocNo ops i) (.blk w.heap.size 0))[n0 + allocNo ops i]? = some (.blk w.heap.size 0) := by simp [hkl]
       have hexec : (execOp a.eval o).run P w = .ok (.value (.pointer (some ⟨w.heap.size, 0, none⟩))) (w.alloc (.cells v.cells e)) := by
        simp only [execOp, ho, Instr.alloc, newVar, newRow, Sem.run_bind, hrun, Result.andThen_ok, Sem.run_pure, run_newObj]
        rfl
       unfold Oper.wp
       rw [hexec]
       refine hK _ _ _ ⟨hag.1.trans hx, fun k hkn => ?_⟩ (fun j q hj hq hl => ?_) ((ha.ext hx).put (x := .v (.one (.p (n0 + allocNo ops i) 0))) h1 ⟨w.heap.size, 0, hnew, rfl⟩) hrep
       · rw [List.getElem?_set, if_neg (by omega)]
         exact hag.2 k hkn
       · obtain ⟨hl', hne⟩ := getD_set_keep hl
         have h3 := hres j q hj hq hl'
         have hneq : n0 + allocNo ops i ≠ n0 + allocNo ops j := by
          rcases Nat.lt_or_gt_of_ne hne with h4 | h4
          · have := allocNo_lt hj hq h4
            omega
          · have := allocNo_lt hi hal h4
            omega
         rw [List.getElem?_set, if_neg hneq]
         exact h3
     · cases hd
   · cases hd
 · exact doOp_ok hcall hd ha hr (fun E' a' w' hp ha' hr' => hK E' a' w' (hag.pre hp hn0) (hres.pre hp) ha' hr')
theorem spotVal_ok {g : Bool} {cs : List A1} {v : AV} {vs : List Value} (h : spotVal g cs = some v) (hv : All2 (V1 E) cs vs) : (g = true ∧ VV E v (.agg vs.toArray)) ∨ (g = false ∧ ∃ u, vs = [u] ∧ VV E v u) := by
 unfold spotVal at h
 split at h
 · cases h
   exact .inl ⟨rfl, vs, hv, rfl⟩
 · rename_i y
   cases h
   cases vs with
   | nil => exact hv.elim
   | cons u us =>
    cases us with
    | nil => exact .inr ⟨rfl, u, rfl, hv.1⟩
    | cons _ _ => exact hv.2.elim
 · cases h
/-- A load that is taken ahead yields the same in every world in which its fact holds. -/
theorem spot_ok (ha : AR E A n a) {E0 : List Ent} {n0 : Nat} (hs : Rep w0 E0 h0 ws) (hag : Agree n0 E0 E) {o : Oper} {g : Bool} {f : Nat × Nat × Nat} {cs : List A1} {v : AV} {i : Nat} (hsp : evSpot P A o = some (g, f)) (hv : spotVal g cs = some v) (hn : f.1 < n0) (hc : cellsAt h0 f = some cs) :
  ∃ u, VV E v u ∧ ∀ w, FactC E0 ws (i, f, cs) w → (execOp a.eval o).run P w = .ok (.value u) w := by
 obtain ⟨q, l, g1, g2, g3⟩ := cellsAt_ok hc
 have go : ∀ (t : TypeId) (x : Operand) (k b c : Nat), o.op = .load t x → a.eval x = .pointer (some ⟨b, f.2.1, none⟩) → E0[f.1]? = some (.blk b c) → isAggT P t = some g → (g = true → sizeT P t = some f.2.2) → ∃ u, VV E v u ∧ ∀ w, FactC E0 ws (i, f, cs) w → (execOp a.eval o).run P w = .ok (.value u) w := by
  intro t x k b c ho hx hk0 hag' hsz
  obtain ⟨vs, a1, a2, a3⟩ := range_at hs hk0 g1 g2 g3
  rcases spotVal_ok hv (a1.imp (V1.ext hag.1)) with ⟨rfl, hvv⟩ | ⟨rfl, u, rfl, hvv⟩
  · refine ⟨_, hvv, fun w hf => ?_⟩
    have hra := hf b c hk0 vs a2 a3
    have hl : (loadCells ⟨b, f.2.1, none⟩ vs.length).run P w = .ok vs.toArray w :=
     run_loadCells_list (P := P) w ⟨b, f.2.1, none⟩ vs (fun j v hv => by rw [Addr.add_mid]; exact hra j v hv)
    rw [a2] at hl
    simp [execOp, ho, hx, Instr.loadAt, Instr.sureAddr, loadVar, run_agg hag', run_size (hsz rfl), hl]
  · refine ⟨_, hvv, fun w hf => ?_⟩
    have hra := hf b c hk0 [u] a2 a3
    have hc := hra 0 u rfl
    simp only [Nat.add_zero] at hc
    simp [execOp, ho, hx, Instr.loadAt, Instr.sureAddr, loadVar, run_agg hag', run_load, hc]
 unfold evSpot at hsp
 split at hsp
 · rename_i t x ho
   split at hsp
   · rename_i k q' hx hagg
     cases hsp
     obtain ⟨b, c, hk, he⟩ := evA_ok ha x _ hx
     exact go t x k b c ho he (by rw [← hag.2 _ hn]; exact hk) hagg (fun e => by cases e)
   · rename_i k q' m hx hagg hsz
     cases hsp
     obtain ⟨b, c, hk, he⟩ := evA_ok ha x _ hx
     exact go t x k b c ho he (by rw [← hag.2 _ hn]; exact hk) hagg (fun _ => hsz)
   · cases hsp
 · cases hsp
theorem noWait_of {ops : Array Oper} {i j : Nat} (h : noWait .any ops j i) : waitsFor ops j i = false := by
 unfold waitsFor
 cases ho : ops[j]? with
 | none => rfl
 | some o =>
  simp only
  rw [Bool.eq_false_iff]
  intro hc
  obtain ⟨e, he, hb⟩ := Array.any_eq_true'.1 hc
  simp only [Bool.and_eq_true, beq_iff_eq] at hb
  exact h o ho e he hb.1 hb.2
theorem ready_noWait {ops : Array Oper} {listed : Array Bool} {i f : Nat} (hi : i ∈ Region.ready .any ops listed) (hf : listed.getD f true = false) : noWait .any ops i f := by
 obtain ⟨hun, o, ho, hall⟩ := mem_ready.1 hi
 intro o' ho' e he hb heq
 rw [ho] at ho'
 cases ho'
 have h1 := hall e he hb
 rw [heq] at h1
 rw [Array.getD_eq_getD_getElem?] at h1 hf
 cases hg : listed[f]? with
 | none => rw [hg] at hf; cases hf
 | some b =>
  rw [hg] at h1 hf
  simp only [Option.getD_some] at h1 hf
  rw [h1] at hf
  cases hf
theorem runSch_ok {call : CallT} (hcall : CallOk P w0 call) {ops : Array Oper} (hsel : Region.noSelect ops = true) {n0 : Nat} {E0 : List Ent} (hn0 : n0 ≤ E0.length) (hs : Rep w0 E0 h0 ws) {FS : List FactA} {HS : List (Nat × Hp)} (hfacts : ∀ x ∈ FS, factsOk ops n0 h0 HS x = true) {Q : Exit → Act → World → Prop} (hQ : ∀ c a w, ¬ Q (.panic c) a w) :
  ∀ (sch : Sch) (fuel : Nat) (listed : Array Bool) (s s' : St) (fs : List FactA) (hs' : List (Nat × Hp)), schedOk ops fuel sch listed = true → runSch P call ops n0 sch s = some (s', fs, hs') → (∀ x ∈ fs, x ∈ FS) → (∀ x ∈ hs', x ∈ HS) →
   ∀ (E : List Ent) (a : Act) (w : World) (al : Nat → Prop), AR E s.A s.n a → Rep w0 E s.h w → Agree n0 E0 E → Res ops n0 listed E → (∀ f, listed.getD f true = false → al f) → (∀ f, al f → ∀ x ∈ FS, x.1 = f → FactC E0 ws x w) →
    (∀ E' a' w', AR E' s'.A s'.n a' → Rep w0 E' s'.h w' → Agree n0 E0 E' → Q .normal a' w') → wpAnyG P .any ops Q (fun f w => ∀ x ∈ FS, x.1 = f → FactC E0 ws x w) fuel al listed a w := by
 have branch : ∀ (i : Nat) (o : Oper) (s s1 : St) (listed : Array Bool) (fuel : Nat), ops[i]? = some o → doOpD P call ops n0 i s o = some s1 → (i, s1.h) ∈ HS → i ∈ Region.ready .any ops listed →
   ∀ (E : List Ent) (a : Act) (w : World) (al : Nat → Prop), AR E s.A s.n a → Rep w0 E s.h w → Agree n0 E0 E → Res ops n0 listed E → (∀ f, listed.getD f true = false → al f) →
   (∀ (E : List Ent) (a : Act) (w : World) (al : Nat → Prop), AR E s1.A s1.n a → Rep w0 E s1.h w → Agree n0 E0 E → Res ops n0 (listed.setIfInBounds i true) E → (∀ f, (listed.setIfInBounds i true).getD f true = false → al f) → (∀ f, al f → ∀ x ∈ FS, x.1 = f → FactC E0 ws x w) → wpAnyG P .any ops Q (fun f w => ∀ x ∈ FS, x.1 = f → FactC E0 ws x w) fuel al (listed.setIfInBounds i true) a w) →
   wpOp P ops Q i (fun a' w' => (∀ f, kill .any ops i al f → ∀ x ∈ FS, x.1 = f → FactC E0 ws x w') ∧ wpAnyG P .any ops Q (fun f w => ∀ x ∈ FS, x.1 = f → FactC E0 ws x w) fuel (kill .any ops i al) (listed.setIfInBounds i true) a' w') a w := by
  intro i o s s1 listed fuel ho hd hin hready E a w al ha hr hag hres hal hrec
  have hun := (mem_ready.1 hready).1
  have hop := doOpD_ok hcall (K := fun a' w' => (∀ f, kill .any ops i al f → ∀ x ∈ FS, x.1 = f → FactC E0 ws x w') ∧ wpAnyG P .any ops Q (fun f w => ∀ x ∈ FS, x.1 = f → FactC E0 ws x w) fuel (kill .any ops i al) (listed.setIfInBounds i true) a' w') (Q := Q) ho hd ha hr hres hun hag hn0 (fun E' a' w' hag' hres' ha' hr' => by
    have hfact : ∀ f, kill .any ops i al f → ∀ x ∈ FS, x.1 = f → FactC E0 ws x w' := by
     intro f hf x hx hxf
     have h1 := hfacts x hx
     obtain ⟨xi, p, cs⟩ := x
     unfold factsOk at h1
     simp only at h1
     cases hc0 : cellsAt h0 p with
     | none => simp [hc0] at h1
     | some cs0 =>
      simp only [hc0, Bool.and_eq_true] at h1
      obtain ⟨⟨h2, h3⟩, h4⟩ := h1
      have h5 := List.all_eq_true.1 h4 _ hin
      simp only at hxf
      subst hxf
      rw [noWait_of hf.2, Bool.false_or] at h5
      cases hc : cellsAt s1.h p with
      | none => simp [hc] at h5
      | some cs' =>
       simp only [hc] at h5
       exact fact_at hs hr' hag' (x := (xi, p, cs)) (Nat.le_of_ble_eq_true h3) hc0 hc (sameCells_ok h5)
    refine ⟨hfact, hrec E' a' w' _ ha' hr' hag' hres' (fun f hf => ?_) hfact⟩
    obtain ⟨hf1, hf2⟩ := getD_set_keep hf
    exact ⟨hal f hf1, ready_noWait hready hf1⟩)
  unfold wpOp
  simp only [ho]
  split
  · rename_i hw
    rw [if_pos hw] at hop
    exact .inl hop
  · rename_i hw
    rw [if_neg hw] at hop
    exact hop
 intro sch
 induction sch with
 | done =>
  intro fuel listed s s' fs hs' hok hrun _ _ E a w al ha hr hag hres hal hS hpost
  cases hrun
  have hnil : Region.ready .any ops listed = [] := by
   unfold schedOk at hok
   simpa using hok
  cases fuel with
  | zero => exact ⟨hnil, hpost E a w ha hr hag⟩
  | succ fuel => exact ⟨fun _ => hpost E a w ha hr hag, fun i hi => by rw [hnil] at hi; cases hi⟩
 | take i l ih =>
  intro fuel listed s s' fs hs' hok hrun hfs hhs E a w al ha hr hag hres hal hS hpost
  cases fuel with
  | zero => simp [schedOk] at hok
  | succ fuel =>
   unfold schedOk at hok
   simp only [Bool.and_eq_true] at hok
   obtain ⟨⟨hready, hfree⟩, hok⟩ := hok
   have hready' : i ∈ Region.ready .any ops listed := by simpa using hready
   have hun := (mem_ready.1 hready').1
   unfold runSch at hrun
   cases ho : ops[i]? with
   | none => simp [ho] at hrun
   | some o =>
    obtain ⟨A, n, h⟩ := s
    simp only [ho] at hrun
    simp only at ha hr
    have finish : ∀ (v : AV) (u : Value), (∀ t, o.dst = some t → t < n) → VV E v u → YieldsIf P ops (fun w => ∀ x ∈ FS, x.1 = i → FactC E0 ws x w) o u a → ∀ fs1 hs1, runSch P call ops n0 l ⟨setA A o.dst v, n, h⟩ = some (s', fs1, hs1) → (∀ x ∈ fs1, x ∈ FS) → (∀ x ∈ hs1, x ∈ HS) → wpAnyG P .any ops Q (fun f w => ∀ x ∈ FS, x.1 = f → FactC E0 ws x w) (fuel + 1) al listed a w := by
     intro v u hd hvu hy fs1 hs1 hrun1 hfs1 hhs1
     refine wpAnyG_first ho (Region.noSelect_spec hsel) (fun c a w hq => absurd hq (hQ c _ w)) fuel al listed a w (Region.free_spec ho hfree) hready' hy (hal i hun) hS ?_
     exact ih fuel _ _ s' fs1 hs1 hok hrun1 hfs1 hhs1 E _ w al (ha.put hd hvu) hr hag (hres.pre (Pre.refl E)) (fun f hf => hal f (getD_set_keep hf).1) hS hpost
    split at hrun
    · rename_i hw
      have hwd := wanted_ok ha hw
      split at hrun
      · rename_i v hv
        obtain ⟨h1, h2⟩ := putF_ok hrun
        obtain ⟨u, hu, hex⟩ := evPure_ok ha hv
        exact finish v u h1 hu (.inl ⟨hwd, fun w _ => hex w⟩) _ _ h2 hfs hhs
      · split at hrun
        · rename_i g f hsp
          split at hrun
          · rename_i cs hcs
            split at hrun
            · rename_i v hv
              split at hrun
              · rename_i s1 fs1 hs1 hput
                cases hrun
                obtain ⟨h1, h2⟩ := putF_ok hput
                have hmem : (i, f, cs) ∈ FS := hfs _ List.mem_cons_self
                have hfo := hfacts _ hmem
                unfold factsOk at hfo
                simp only at hfo
                cases hc0 : cellsAt h0 f with
                | none => simp [hc0] at hfo
                | some cs0 =>
                 simp only [hc0, Bool.and_eq_true] at hfo
                 obtain ⟨⟨g2, g3⟩, _⟩ := hfo
                 have e1 := sameCells_ok g2
                 subst e1
                 obtain ⟨u, hu, hex⟩ := spot_ok (i := i) ha hs hag hsp hv (Nat.le_of_ble_eq_true g3) hc0
                 exact finish v u h1 hu (.inl ⟨hwd, fun w hf => hex w (hf _ hmem rfl)⟩) _ _ h2 (fun x hx => hfs x (List.mem_cons_of_mem _ hx)) hhs
              · cases hrun
            · cases hrun
          · cases hrun
        · cases hrun
    · rename_i hw
      have hwd := wanted_ok ha hw
      obtain ⟨h1, h2⟩ := putF_ok hrun
      exact finish undefA undef h1 undef_ok (.inr ⟨hwd, rfl⟩) _ _ h2 hfs hhs
    · cases hrun
 | one i l ih =>
  intro fuel listed s s' fs hs' hok hrun hfs hhs E a w al ha hr hag hres hal hS hpost
  cases fuel with
  | zero => simp [schedOk] at hok
  | succ fuel =>
   unfold schedOk at hok
   simp only [Bool.and_eq_true, beq_iff_eq] at hok
   obtain ⟨hready, hok⟩ := hok
   unfold runSch at hrun
   cases ho : ops[i]? with
   | none => simp [ho] at hrun
   | some o =>
    simp only [ho] at hrun
    split at hrun
    · rename_i s1 hd
      split at hrun
      · rename_i s2 fs1 hs1 hrun1
        cases hrun
        refine ⟨fun h => (by rw [hready] at h; cases h), fun j hj => ?_⟩
        rw [hready] at hj
        have hj' := List.mem_singleton.1 hj
        subst hj'
        exact branch j o s s1 listed fuel ho hd (hhs _ List.mem_cons_self) (by rw [hready]; exact List.mem_singleton.2 rfl) E a w al ha hr hag hres hal (fun E a w al ha hr hag hres hal hS => ih fuel _ _ s' _ _ hok hrun1 hfs (fun x hx => hhs x (List.mem_cons_of_mem _ hx)) E a w al ha hr hag hres hal hS hpost)
      · cases hrun
    · cases hrun
 | two i j l m ihl ihm =>
  intro fuel listed s s' fs hs' hok hrun hfs hhs E a w al ha hr hag hres hal hS hpost
  cases fuel with
  | zero => simp [schedOk] at hok
  | succ fuel =>
   unfold schedOk at hok
   simp only [Bool.and_eq_true, beq_iff_eq] at hok
   obtain ⟨⟨hready, hokl⟩, hokm⟩ := hok
   unfold runSch at hrun
   split at hrun
   · rename_i o q ho hq
     split at hrun
     · rename_i s1 s2 hd1 hd2
       split at hrun
       · rename_i t1 fs1 hs1 t2 fs2 hs2 hrun1 hrun2
         split at hrun
         · rename_i hst
           cases hrun
           subst hst
           refine ⟨fun h => (by rw [hready] at h; cases h), fun k hk => ?_⟩
           rw [hready] at hk
           rcases List.mem_cons.1 hk with rfl | hk
           · exact branch k o s s1 listed fuel ho hd1 (hhs _ List.mem_cons_self) (by rw [hready]; exact List.mem_cons_self) E a w al ha hr hag hres hal (fun E a w al ha hr hag hres hal hS => ihl fuel _ _ _ _ _ hokl hrun1 (fun x hx => hfs x (List.mem_append_left _ hx)) (fun x hx => hhs x (List.mem_cons_of_mem _ (List.mem_cons_of_mem _ (List.mem_append_left _ hx)))) E a w al ha hr hag hres hal hS hpost)
           · have hk' := List.mem_singleton.1 hk
             subst hk'
             exact branch k q s s2 listed fuel hq hd2 (hhs _ (List.mem_cons_of_mem _ List.mem_cons_self)) (by rw [hready]; exact List.mem_cons_of_mem _ List.mem_cons_self) E a w al ha hr hag hres hal (fun E a w al ha hr hag hres hal hS => ihm fuel _ _ _ _ _ hokm hrun2 (fun x hx => hfs x (List.mem_append_right _ hx)) (fun x hx => hhs x (List.mem_cons_of_mem _ (List.mem_cons_of_mem _ (List.mem_append_right _ hx)))) E a w al ha hr hag hres hal hS hpost)
         · cases hrun
       · cases hrun
     · cases hrun
   · cases hrun
end
end Go.Ev
