/- The reckoner is right: what turns memory, first part. -/
import Derived.Test.YtbmdocjeepnhmaaGreatDoorEw8
import Derived.Laws.MakeOwn
import Derived.Laws.AppendOwn
set_option linter.unusedVariables false
set_option linter.unusedSimpArgs false
set_option linter.unusedSectionVars false
namespace Go.Ev
open Go Go.RowKit
variable [Sy]
section
variable {E : List Ent} {A : Fr} {n : Nat} {a : Act} {P : Program} {w0 : Base} {w : World} {h : Hp}
/-- A list, a part of it overwritten. -/
def overV (vs : List Value) (o : Nat) (us : List Value) : List Value := vs.take o ++ us ++ vs.drop (o + us.length)
theorem overV_take {vs us : List Value} {o L : Nat} (h1 : o + us.length ≤ L) (h2 : L ≤ vs.length) : (overV vs o us).take L = overV (vs.take L) o us := by
 unfold overV
 apply List.ext_getElem?
 intro k
 rw [List.getElem?_take]
 by_cases hk : k < L
 · rw [if_pos hk, List.append_assoc, List.append_assoc]
   by_cases h3 : k < o
   · rw [List.getElem?_append_left (by simp; omega), List.getElem?_append_left (by simp; omega), List.getElem?_take, List.getElem?_take, List.getElem?_take, if_pos hk]
   · have e1 : (vs.take o).length = o := by simp; omega
     have e2 : ((vs.take L).take o).length = o := by simp; omega
     rw [List.getElem?_append_right (l₁ := vs.take o) (by omega), List.getElem?_append_right (l₁ := (vs.take L).take o) (by omega), e1, e2]
     by_cases h4 : k - o < us.length
     · rw [List.getElem?_append_left h4, List.getElem?_append_left h4]
     · rw [List.getElem?_append_right (l₁ := us) (l₂ := vs.drop (o + us.length)) (by omega), List.getElem?_append_right (l₁ := us) (by omega), List.getElem?_drop, List.getElem?_drop, List.getElem?_take, if_pos (by omega)]
 · rw [if_neg hk]
   symm
   apply List.getElem?_eq_none
   simp
   omega
theorem blk_set {b t : Nat} {fr : Nat × Nat} {W : World} {cs : Array Value} (h : W.heap[b]? = some (.cells cs t fr)) (o : Nat) (v : Value) : (W.setCell ⟨b, o, none⟩ v).heap[b]? = some (.cells (cs.setIfInBounds o v) t fr) := by
 have hlt : b < W.heap.size := (Array.getElem?_eq_some_iff.1 h).1
 have hg : W.heap[b] = .cells cs t fr := (Array.getElem?_eq_some_iff.1 h).2
 simp only [World.setCell, Array.getElem?_modify, h, Option.map_some, if_pos]
 rfl
theorem setCells_far (b : Nat) : ∀ (vs : List Value) (o : Nat) (W : World) (k : Nat), k ≠ b → (W.setCells b o vs).heap[k]? = W.heap[k]?
 | [], _, _, _, _ => rfl
 | v :: r, o, W, k, hk => by
  rw [World.setCells, setCells_far b r (o + 1) _ k hk]
  exact Below.heap_setCell W ⟨b, o, none⟩ v k hk
theorem setCells_size (b : Nat) : ∀ (vs : List Value) (o : Nat) (W : World), (W.setCells b o vs).heap.size = W.heap.size
 | [], _, _ => rfl
 | v :: r, o, W => by
  rw [World.setCells, setCells_size b r (o + 1) _]
  simp [World.setCell]
theorem below_setCells {b : Nat} (hb : ¬ w0.pr b) : ∀ (vs : List Value) (o : Nat) (W : World), Kept w0 W → Kept w0 (W.setCells b o vs)
 | [], _, _, h => h
 | v :: r, o, W, h => below_setCells hb r (o + 1) _ (h.setCell (p := ⟨b, o, none⟩) hb v)
theorem setCells_row {b t : Nat} {fr : Nat × Nat} : ∀ (vs : List Value) (o : Nat) (W : World) (cs : Array Value), W.heap[b]? = some (.cells cs t fr) → o + vs.length ≤ cs.size →
   ∃ cs', (W.setCells b o vs).heap[b]? = some (.cells cs' t fr) ∧ cs'.size = cs.size ∧ cs'.toList = overV cs.toList o vs
 | [], o, W, cs, h, _ => ⟨cs, h, rfl, by simp [overV]⟩
 | v :: r, o, W, cs, h, hl => by
  simp only [List.length_cons] at hl
  obtain ⟨cs', h1, h2, h3⟩ := setCells_row r (o + 1) (W.setCell ⟨b, o, none⟩ v) _ (blk_set h o v) (by rw [Array.size_setIfInBounds]; omega)
  refine ⟨cs', h1, by simpa using h2, ?_⟩
  rw [h3]
  have hsz : cs.toList.length = cs.size := Array.length_toList
  unfold overV
  have e1 : (cs.setIfInBounds o v).toList = cs.toList.set o v := by simp
  rw [e1]
  apply List.ext_getElem?
  intro k
  rw [List.append_assoc, List.append_assoc]
  by_cases h4 : k < o
  · rw [List.getElem?_append_left (by simp; omega), List.getElem?_append_left (by simp; omega), List.getElem?_take, List.getElem?_take, if_pos (by omega), if_pos h4, List.getElem?_set, if_neg (by omega)]
  · have l2 : (cs.toList.take o).length = o := by simp; omega
    have l1 : ((cs.toList.set o v).take (o + 1)).length = o + 1 := by simp; omega
    rw [List.getElem?_append_right (l₁ := cs.toList.take o) (by omega), l2]
    by_cases h5 : k = o
    · subst h5
      rw [List.getElem?_append_left (l₁ := (cs.toList.set k v).take (k + 1)) (by omega), List.getElem?_take, if_pos (by omega), List.getElem?_set, if_pos rfl, if_pos (by omega), Nat.sub_self]
      rfl
    · rw [List.getElem?_append_right (l₁ := (cs.toList.set o v).take (o + 1)) (by omega), l1, show k - o = (k - (o + 1)) + 1 by omega, List.cons_append, List.getElem?_cons_succ]
      by_cases h6 : k - (o + 1) < r.length
      · rw [List.getElem?_append_left h6, List.getElem?_append_left h6]
      · rw [List.getElem?_append_right (by omega), List.getElem?_append_right (by omega), List.getElem?_drop, List.getElem?_drop, List.getElem?_set, if_neg (by omega)]
        congr 1
        simp
        omega
theorem over_allV {l cs m : List A1} {o : Nat} {vs us : List Value} (h : over l o cs = some m) (hl : All2 (V1 E) l vs) (hc : All2 (V1 E) cs us) : All2 (V1 E) m (overV vs o us) := over_all h hl hc
theorem over_len {l cs m : List A1} {o : Nat} (h : over l o cs = some m) : m.length = l.length := by
 obtain ⟨h1, rfl⟩ := over_ok h
 simp
 omega
/-- Some cells of a block that is told of are written over. -/
theorem eff_write (hr : Rep w0 E h w) {k b c o : Nat} {q q' : AO} {l l' cs : List A1} {us : List Value} (hk : E[k]? = some (.blk b c)) (hq : h.get k = some q) (hl : rowOf q = some l) (hov : over l o cs = some l') (hre : reRow q l' = some q') (hus : All2 (V1 E) cs us) :
  (storeCells ⟨b, o, none⟩ us).run P w = .ok () (w.setCells b o us) ∧ Rep w0 E (h.put k q') (w.setCells b o us) := by
 obtain ⟨vs, t, fr, h1, h2, h3, h4⟩ := cells_of hr hk hq hl
 obtain ⟨h5, _⟩ := over_ok hov
 have hlen : cs.length = us.length := hus.length
 obtain ⟨vs', g1, g2, g3⟩ := setCells_row us o w vs h1 (by omega)
 refine ⟨?_, ?_⟩
 · have := run_storeCells_cells (P := P) b o us 0 w (fun j hj => ?_) (fun j hj => ?_) (fun v hv => ?_)
   · simpa using this
   · rw [cell_eq h1]
     simp
     omega
   · have hle : o + 0 + j < vs.size := by omega
     simp only [World.frozen?, h1]
     rcases h2 with h2 | h2
     · have : ¬ fr.1 ≤ o + 0 + j := by omega
       simp [this]
       intro h9
       omega
     · subst h2
       simp
   · obtain ⟨x, _, hx⟩ := hus.mem v hv
     exact V1.oneCell x v hx
 · have hlt := hr.old k q b c (lt_of_get hr hk) hq hk
   refine hr.put hk hq (below_setCells hlt.1 us o w hr.below) (by rw [setCells_size]; exact Nat.le_refl _) ?_ (fun j hj _ => setCells_far b us o w j hj)
   rw [g1]
   have h1' := (hr.obj k q (lt_of_get hr hk) hq).is hk
   cases q with
   | cells t' m =>
    cases hl
    cases hre
    obtain ⟨cs0, fr0, k1, k2, k3⟩ := h1'
    rw [h1] at k1
    cases k1
    refine ⟨vs', fr, rfl, by rw [g2]; exact h2, ?_⟩
    rw [g3]
    exact over_allV hov k3 hus
   | row t' z m =>
    cases hl
    cases hre
    obtain ⟨cs0, fr0, k1, k2, k3, k4, k5⟩ := h1'
    rw [h1] at k1
    cases k1
    refine ⟨vs', fr, rfl, by rw [g2]; exact h2, by rw [g2]; exact k3, k4, ?_⟩
    rw [g3, over_len hov, overV_take (by omega) (by rw [Array.length_toList]; exact h3)]
    exact over_allV hov k5 hus
   | map _ _ => cases hl
   | iter _ _ _ _ => cases hl
   | siter _ _ => cases hl
   | clo _ _ => cases hl
   | ifc _ _ => cases hl
   | y _ => cases hl
   | mapx _ => cases hl
/-- What a turning operation's proof shows. -/
def Turns (P : Program) (w0 : Base) (E : List Ent) (a : Act) (w : World) (o : Oper) (y : AV) (h' : Hp) : Prop :=
 ∃ E' w' v, Pre E E' ∧ Rep w0 E' h' w' ∧ VV E' y v ∧ ((execOp a.eval o).run P w = .ok (.value v) w' ∨ ((execOp a.eval o).run P w = .ok .skip w' ∧ v = undef))
theorem turns_store (ha : AR E A n a) (hr : Rep w0 E h w) {o : Oper} {t : TypeId} {x y : Operand} {p q : AV} {us : List U} (ho : o.op = .store t x y) (hx : evA A x = some p) (hy : evA A y = some q) (he : evStore P t p q h = some us) : Turns P w0 E a w o undefA (apU h us) := by
 have h1 := evA_ok ha x p hx
 have h2 := evA_ok ha y q hy
 unfold evStore at he
 split at he
 · rename_i k f z
   obtain ⟨b, c, hk, hv⟩ := h1
   split at he
   · rename_i ob m hg hs
     split at he
     · rename_i hlen
       split at he
       · rename_i l hl
         split at he
         · rename_i l' hov
           cases hre : reRow ob l' with
           | none => simp [hre] at he
           | some q' =>
            simp only [hre, Option.map_some, Option.some.injEq] at he
            subst he
            have hz : All2 (V1 E) z.cells (a.eval y).cells.toList := V2.cells h2
            obtain ⟨g1, g2⟩ := eff_write (P := P) hr hk hg hl hov hre hz
            refine ⟨E, _, undef, Pre.refl E, g2, undef_ok, .inr ⟨?_, rfl⟩⟩
            have hsz : ¬ ((a.eval y).cells.size ≠ m) := by
             have := hz.length.trans Array.length_toList
             omega
            simp only [execOp, ho, hv, Instr.storeAt, Instr.sureAddr, storeVar, Sem.run_bind, Sem.run_pure, Result.andThen_ok, run_size hs, if_neg hsz, g1]
         · cases he
       · cases he
     · cases he
   · cases he
 · cases he
/-- A new block of cells. -/
theorem alloc_cells (hr : Rep w0 E h w) {l : List A1} {cs : Array Value} {t : TypeId} (c : Nat) (hn : h.n < 2 ^ D) (hl : All2 (V1 E) l cs.toList) : Rep w0 (E ++ [.blk w.heap.size c]) (h.new (.cells t l)) (w.alloc (.cells cs t)) :=
 hr.alloc c hn ⟨cs, (0, 0), rfl, .inr rfl, hl.imp (V1.ext (Ext.one E _))⟩
theorem last_new (hr : Rep w0 E h w) (e : Ent) : (E ++ [e])[h.n]? = some e := by rw [← hr.len]; simp
theorem turns_new (ha : AR E A n a) (hr : Rep w0 E h w) {o : Oper} {t : TypeId} {x : A2} {v : Value} {r : AV} {us : List U} (hx : V2 E x v) (he : evNew h t x = some (r, us))
  (hrun : (execOp a.eval o).run P w = .ok (.value (.pointer (some ⟨w.heap.size, 0, none⟩))) (w.alloc (.cells v.cells t))) : Turns P w0 E a w o r (apU h us) := by
 unfold evNew at he
 split at he
 · rename_i hn
   cases he
   refine ⟨_, _, _, Pre.one E _, alloc_cells hr 0 hn (V2.cells hx), ⟨w.heap.size, 0, last_new hr _, rfl⟩, .inl hrun⟩
 · cases he
theorem turns_alloc (ha : AR E A n a) (hr : Rep w0 E h w) {o : Oper} {t : TypeId} {z : A2} {r : AV} {us : List U} (ho : o.op = .alloc t) (hz : zeroT P t = some z) (he : evNew h t z = some (r, us)) : Turns P w0 E a w o r (apU h us) := by
 obtain ⟨v, hv, hrun⟩ := zero_ok (E := E) hz
 refine turns_new ha hr hv he ?_
 simp only [execOp, ho, Instr.alloc, newVar, newRow, Sem.run_bind, hrun, Result.andThen_ok, Sem.run_pure, run_newObj]
 rfl
theorem turns_box (ha : AR E A n a) (hr : Rep w0 E h w) {o : Oper} {t : TypeId} {x : Operand} {z : A2} {r : AV} {us : List U} (ho : o.op = .box t x) (hx : evA A x = some (.v z)) (he : evNew h t z = some (r, us)) : Turns P w0 E a w o r (apU h us) := by
 refine turns_new ha hr (evA_ok ha x _ hx) he ?_
 simp only [execOp, ho, Instr.box, newVar, newRow, Sem.run_bind, Result.andThen_ok, Sem.run_pure, run_newObj]
 rfl
/-! ### Rows of noughts -/
theorem made_list (z : Array Value) (m : Nat) : (madeCells z (m * z.size)).toList = (List.replicate m z.toList).flatten := by
 induction m with
 | zero => simp [madeCells, Array.range_zero']
 | succ m ih =>
  rw [List.replicate_succ', List.flatten_append, ← ih]
  have e1 : (madeCells z ((m + 1) * z.size)).toList = (List.range ((m + 1) * z.size)).map (fun i => z[i % z.size]!) := by simp [madeCells, Array.toList_range]
  have e2 : (madeCells z (m * z.size)).toList = (List.range (m * z.size)).map (fun i => z[i % z.size]!) := by simp [madeCells, Array.toList_range]
  rw [e1, e2, Nat.succ_mul, List.range_add, List.map_append]
  congr 1
  simp only [List.flatten_cons, List.flatten_nil, List.append_nil]
  apply List.ext_getElem?
  intro k
  rw [List.map_map, List.getElem?_map]
  by_cases hk : k < z.size
  · rw [List.getElem?_range hk]
    simp only [Option.map_some, Function.comp]
    rw [Nat.mul_comm m, Nat.mul_add_mod, Nat.mod_eq_of_lt hk, Array.getElem?_toList]
    simp [hk]
  · rw [List.getElem?_eq_none (by simp; omega), List.getElem?_eq_none (by simp; omega)]
    rfl
theorem zeros_ok {l : List A1} {vs : List Value} (h : All2 (V1 E) l vs) (m : Nat) : All2 (V1 E) (zeros l m) (List.replicate m vs).flatten := by
 unfold zeros
 induction m with
 | zero => trivial
 | succ m ih =>
  rw [List.replicate_succ, List.replicate_succ, List.flatten_cons, List.flatten_cons]
  exact h.append ih
theorem info_of {t : TypeId} {z : A2} (hz : zeroT P t = some z) : ∃ i v, P.info? t = some i ∧ i.zero = some v ∧ V2 E z v := by
 unfold zeroT at hz
 cases hi : P.info? t with
 | none => rw [hi] at hz; cases hz
 | some i =>
  cases hv : i.zero with
  | none => simp [hi, hv] at hz
  | some v =>
   refine ⟨i, v, rfl, hv, asA2_ok v z ?_⟩
   simpa [hi, hv] using hz
theorem size_of {t : TypeId} {m : Nat} {i : TypeInfo} (hi : P.info? t = some i) (hs : sizeT P t = some m) : i.size = m := by
 unfold sizeT at hs
 rw [hi] at hs
 exact Option.some.inj hs
theorem bytes_of {t : TypeId} {m : Nat} {i : TypeInfo} (hi : P.info? t = some i) (hs : bytesT P t = some m) : i.bytes = m := by
 unfold bytesT at hs
 rw [hi] at hs
 exact Option.some.inj hs
theorem turns_makeSlice (ha : AR E A n a) (hr : Rep w0 E h w) {o : Oper} {t : TypeId} {x y : Operand} {p q r : AV} {us : List U} (ho : o.op = .makeSlice t x y) (hx : evA A x = some p) (hy : evA A y = some q) (he : evMakeSlice P h t p q = some (r, us)) : Turns P w0 E a w o r (apU h us) := by
 have h1 := evA_ok ha x p hx
 have h2 := evA_ok ha y q hy
 unfold evMakeSlice at he
 split at he
 · rename_i e i j hel hi hj
   obtain ⟨k1, hv1⟩ := intOf_ok hi h1
   obtain ⟨k2, hv2⟩ := intOf_ok hj h2
   split at he
   · rename_i z m by_ hz hs hb
     split at he
     · rename_i hc
       obtain ⟨c1, c2, c3, c4, c5, c6⟩ := hc
       cases he
       obtain ⟨info, v, hi1, hi2, hv⟩ := info_of (E := E) hz
       have hsz := size_of hi1 hs
       have hby := bytes_of hi1 hb
       have hcells := V2.cells hv
       have hvs : v.cells.size = m := by rw [← Array.length_toList, ← hcells.length]; exact c5
       have hmul : (info.bytes : Int) * j ≤ 281474976710656 := by
        rw [hby]
        have : (by_ : Int) * j ≤ 1000000 * 1000000 := Int.mul_le_mul (by omega) c3 (by omega) (by omega)
        omega
       have hrun := run_make (P := P) w t e info v (elem_ok hel) hi1 hi2 k1 k2 i j c1 c2 hmul (by omega)
       refine ⟨_, _, _, Pre.one E _, alloc_cells hr 0 c6 (cs := madeCells v.cells (j.toNat * info.size)) (t := e) ?_, ⟨w.heap.size, 0, last_new hr _, rfl, ?_⟩, .inl ?_⟩
       · rw [hsz, ← hvs, made_list]
         exact zeros_ok hcells _
       · show i.toNat ≤ j.toNat
         omega
       · simp only [execOp, ho, hv1, hv2, Sem.run_bind, hrun, Result.andThen_ok, Sem.run_pure]
         rfl
     · cases he
   · cases he
 · cases he
end
end Go.Ev
namespace Go.Ev
open Go Go.RowKit
variable [Sy]
section
variable {E : List Ent} {A : Fr} {n : Nat} {a : Act} {P : Program} {w0 : Base} {w : World} {h : Hp}
theorem turns_buildSlice (ha : AR E A n a) (hr : Rep w0 E h w) {o : Oper} {t : TypeId} {m : Nat} {ps : Array (Nat × Operand)} {qs : List (Nat × AV)} {r : AV} {us : List U} (ho : o.op = .buildSlice t m ps) (hq : allSome (fun p => (evA A p.2).map fun v => (p.1, v)) ps.toList = some qs) (he : evBuildSlice P h t m qs = some (r, us)) : Turns P w0 E a w o r (apU h us) := by
 unfold evBuildSlice at he
 split at he
 · rename_i e zs hel hzs
   have hp := parts_ok ha hq hzs
   split at he
   · rename_i z zz hs hz
     split at he
     · rename_i hc
       obtain ⟨c1, c2, c3⟩ := hc
       split at he
       · rename_i l hf
         cases he
         obtain ⟨v, hv, hzr⟩ := zero_ok (E := E) hz
         have hcells := V2.cells hv
         have hvs : v.cells.size = z := by rw [← Array.length_toList, ← hcells.length]; exact c1
         have hrow : All2 (V1 E) (zeros zz.cells m) (madeCells v.cells (m * z)).toList := by
          rw [← hvs, made_list]
          exact zeros_ok hcells _
         obtain ⟨cs, hcs, hl⟩ := fill_ok zs _ _ l _ hp hrow hf
         refine ⟨_, _, _, Pre.one E _, alloc_cells hr 0 c3 (cs := cs) (t := e) hl, ⟨w.heap.size, 0, last_new hr _, rfl, Nat.le_refl _⟩, .inl ?_⟩
         have hno : ¬ (m * z > 2 ^ 24) := by omega
         have hcs' : Instr.fill (fun i => some (i * z, z)) (madeCells v.cells (m * z)) (ps.map fun x => (x.1, a.eval x.2)).toList = some cs := hcs
         by_cases h0 : m * z = 0
         · have e3 : (Array.range (m * z)).map (fun x => (#[] : Array Value)[x % (#[] : Array Value).size]!) = madeCells v.cells (m * z) := by rw [h0]; simp [madeCells, Array.range_zero']
           simp only [execOp, ho, Instr.buildSlice, Sem.run_bind, run_underlying (elem_ok hel), run_size hs, Result.andThen_ok, if_neg hno, if_pos h0, Sem.run_pure, e3, hcs', newRow, run_newObj]
           rfl
         · have e3 : (Array.range (m * z)).map (fun x => v.cells[x % v.cells.size]!) = madeCells v.cells (m * z) := rfl
           simp only [execOp, ho, Instr.buildSlice, Sem.run_bind, run_underlying (elem_ok hel), run_size hs, Result.andThen_ok, if_neg hno, if_neg h0, hzr, Sem.run_pure, e3, hcs', newRow, run_newObj]
           rfl
       · cases he
     · cases he
   · cases he
 · cases he
theorem turns_makeFunc (ha : AR E A n a) (hr : Rep w0 E h w) {o : Oper} {f : FuncId} {first caps : Array Operand} {vs : List AV} {ws : List A2} (ho : o.op = .makeFunc (.func f) first caps) (hf : first.size = 0) (hn : h.n < 2 ^ D) (hv : allSome (evA A) caps.toList = some vs) (hw : allSome asV2 vs = some ws) :
  Turns P w0 E a w o (.v (.one (.clo h.n))) (apU h [.new (.clo f ws)]) := by
 have h1 := args_ok ha hv
 have h2 : All2 (V2 E) ws (caps.toList.map a.eval) := by
  clear hv ho
  generalize caps.toList.map a.eval = us at h1
  induction vs generalizing ws us with
  | nil =>
   cases us with
   | nil => cases hw; trivial
   | cons _ _ => exact h1.elim
  | cons x vs ih =>
   cases us with
   | nil => exact h1.elim
   | cons u us =>
    unfold allSome at hw
    cases hx : asV2 x with
    | none => simp [hx] at hw
    | some y =>
     cases hy : allSome asV2 vs with
     | none => simp [hx, hy] at hw
     | some ws' =>
      simp only [hx, hy, Option.some.injEq] at hw
      subst hw
      refine ⟨?_, ih hy _ h1.2⟩
      cases x with
      | v z => cases hx; exact h1.1
      | tup l => cases hx
 have e1 : first = #[] := Array.size_eq_zero_iff.1 hf
 subst e1
 have e2 : caps.map a.eval = (caps.toList.map a.eval).toArray := Array.ext' (by rw [Array.toList_map])
 refine ⟨E ++ [.clo (.func (.func f) #[] (caps.map a.eval))], w, .func (.func f) #[] (caps.map a.eval), Pre.one E _, hr.grow hn ⟨caps.toList.map a.eval, ?_, h2.imp (V2.ext (Ext.one E _))⟩ (fun b c e => by cases e), ⟨last_new hr _, _, _, rfl⟩, .inl ?_⟩
 · rw [last_new hr, e2]
 · have e3 : (#[] : Array Operand).map a.eval = #[] := by simp
   simp only [execOp, ho, Instr.makeFunc, Sem.run_bind, Sem.run_pure, Result.andThen_ok, e3]
theorem turns_makeMap (ha : AR E A n a) (hr : Rep w0 E h w) {o : Oper} {t : TypeId} (ho : o.op = .makeMap t none) (hn : h.n < 2 ^ D) : Turns P w0 E a w o (.v (.one (.m h.n))) (apU h [.new (.map [] 0)]) := by
 refine ⟨_, _, _, Pre.one E _, hr.alloc (ob := .map #[] 0) (o := .map [] 0) 0 hn ⟨#[], rfl, trivial⟩, ⟨w.heap.size, 0, last_new hr _, rfl⟩, .inl ?_⟩
 simp only [execOp, ho, Instr.makeMap, Option.map_none, Sem.run_bind, Sem.run_pure, Result.andThen_ok, run_newObj]
 rfl
theorem turns_makeIface (ha : AR E A n a) (hr : Rep w0 E h w) {o : Oper} {t : TypeId} {x : Operand} {p r : AV} {us : List U} (ho : o.op = .makeInterface t x) (hx : evA A x = some p) (he : evMakeIface P h t p = some (r, us)) : Turns P w0 E a w o r (apU h us) := by
 have h1 := evA_ok ha x p hx
 unfold evMakeIface at he
 split at he
 · rename_i y hi
   obtain ⟨d, hd, hne⟩ := isIface_ok hi
   split at he
   · rename_i hn
     cases he
     refine ⟨E ++ [.clo (.iface t (a.eval x))], w, .iface t (a.eval x), Pre.one E _, hr.grow hn ⟨a.eval x, last_new hr _, V2.ext (Ext.one E _) _ _ h1⟩ (fun b c e => by cases e), ⟨last_new hr _, _, rfl⟩, .inl ?_⟩
     cases d <;> first | (exact absurd rfl (hne _)) | simp only [execOp, ho, Instr.makeInterface, Sem.run_bind, run_underlying hd, Sem.run_pure, Result.andThen_ok]
   · cases he
 · cases he
/-- A block that is no row is set. -/
theorem eff_set (hr : Rep w0 E h w) {k b c : Nat} {q q' : AO} {x x' : Obj} (hk : E[k]? = some (.blk b c)) (hq : h.get k = some q) (hx : w.heap[b]? = some x) (hno : ∀ c t f, x ≠ .cells c t f) (hi : Is E c (some x') q') :
  (setObj b x').run P w = .ok () { w with heap := w.heap.setIfInBounds b x' } ∧ Rep w0 E (h.put k q') { w with heap := w.heap.setIfInBounds b x' } := by
 have hlt := hr.old k q b c (lt_of_get hr hk) hq hk
 refine ⟨?_, hr.put hk hq ⟨hr.below.os, hr.below.tape, hr.below.output, ?_, fun j hj => ?_⟩ ?_ ?_ ?_⟩
 · cases x <;> first | (exact absurd rfl (hno _ _ _)) | simp [setObj, Sem.run, hx]
 · show w0.w.heap.size ≤ (w.heap.setIfInBounds b x').size
   rw [Array.size_setIfInBounds]
   exact hr.below.size
 · show (w.heap.setIfInBounds b x')[j]? = _
   rw [Array.getElem?_setIfInBounds, if_neg (fun e : b = j => hlt.1 (by rw [e]; exact hj))]
   exact hr.below.block j hj
 · show w.heap.size ≤ (w.heap.setIfInBounds b x').size
   rw [Array.size_setIfInBounds]
   exact Nat.le_refl _
 · have : (w.heap.setIfInBounds b x')[b]? = some x' := by simp [hlt.2]
   show Is E c (w.heap.setIfInBounds b x')[b]? q'
   rw [this]
   exact hi
 · intro j hj _
   show (w.heap.setIfInBounds b x')[j]? = _
   rw [Array.getElem?_setIfInBounds, if_neg (by omega)]
theorem turns_mapUpdate (ha : AR E A n a) (hr : Rep w0 E h w) {o : Oper} {t : TypeId} {m k x : Operand} {p q s : AV} {us : List U} (ho : o.op = .mapUpdate t m k x ∨ o.op = .insert t m k x) (hm : evA A m = some p) (hk : evA A k = some q) (hx : evA A x = some s) (he : evMapUpdate P h t p q s = some us) : Turns P w0 E a w o undefA (apU h us) := by
 have h1 := evA_ok ha m p hm
 have h2 := evA_ok ha k q hk
 have h3 := evA_ok ha x s hx
 unfold evMapUpdate at he
 split at he
 · rename_i kt e j key y hu
   obtain ⟨b, c, hb, hv⟩ := h1
   have h2 : V1 E key (a.eval k) := h2
   split at he
   · rename_i es cl hko hg
     obtain ⟨ms, hob, hme⟩ := map_of hr hb hg
     split at he
     · rename_i hf
       cases he
       rcases find_ok (w := w) hko h2 hme hf with ⟨_, hrun⟩ | ⟨j, y', u, _, _, h4, _⟩
       · have hc := check_ok (w := w) hko h2 false
         obtain ⟨g1, g2⟩ := eff_set (P := P) hr hb hg hob (fun _ _ _ => by simp) (x' := .map (ms.push { key := a.eval k, val := a.eval x, born := cl }) (cl + 1)) (q' := .map (es ++ [(key, y, cl)]) (cl + 1)) ⟨_, rfl, by
          rw [Array.toList_push]
          exact hme.append ⟨⟨h2, h3, rfl⟩, trivial⟩⟩
         refine ⟨E, _, undef, Pre.refl E, g2, undef_ok, .inr ⟨?_, rfl⟩⟩
         rcases ho with ho | ho <;> simp only [execOp, ho, hv, Instr.mapUpdate, Sem.run_bind, Sem.run_pure, Result.andThen_ok, run_underlying hu, MapKept.run_getObj_map hob, hc, hrun, g1]
       · cases h4
     · rename_i i z hf
       rcases find_ok (w := w) hko h2 hme hf with ⟨h4, _⟩ | ⟨j, y', u, e0, m0, h4, _, hrun, hei, hmi, hkey⟩
       · cases h4
       · injection h4 with h4
         injection h4 with h4 h5
         subst h4
         simp only [hei] at he
         cases he
         have hc := check_ok (w := w) hko h2 false
         have hmi2 : ms[i]? = some m0 := by rw [← Array.getElem?_toList]; exact hmi
         have hsame : Instr.sameBits 10000 m0.key (a.eval k) = true := by
          rw [hkey]
          obtain ⟨_, _, ⟨_, j', i', _, hvv, _⟩ | ⟨_, s', hvv⟩⟩ := key_ok hko h2
          · rw [hvv]
            simp [Instr.sameBits]
          · rw [hvv]
            show (s' == s') = true
            rw [beq_toListBytes]
            simp
         have hme0 : ME E e0 m0 := by
          obtain ⟨m1, g1, g2⟩ := hme.get i e0 hei
          rw [hmi] at g1
          cases g1
          exact g2
         obtain ⟨g1, g2⟩ := eff_set (P := P) hr hb hg hob (fun _ _ _ => by simp) (x' := .map (ms.modify i fun e => { e with key := a.eval k, val := a.eval x }) cl) (q' := .map (es.set i (key, y, e0.2.2)) cl) ⟨_, rfl, by
          have hlt : i < ms.toList.length := (List.getElem?_eq_some_iff.1 hmi).1
          have hmod : (ms.modify i fun e => { e with key := a.eval k, val := a.eval x }).toList = ms.toList.set i { m0 with key := a.eval k, val := a.eval x } := by
           rw [Array.toList_modify]
           apply List.ext_getElem?
           intro j
           rw [List.getElem?_modify, List.getElem?_set]
           by_cases hij : i = j
           · subst hij
             rw [hmi]
             have hlt' : i < ms.size := by rw [← Array.length_toList]; exact hlt
             simp [hlt']
           · simp [hij]
          rw [hmod]
          exact hme.set i _ _ ⟨h2, h3, hme0.2.2⟩⟩
         refine ⟨E, _, undef, Pre.refl E, g2, undef_ok, .inr ⟨?_, rfl⟩⟩
         rcases ho with ho | ho <;> simp only [execOp, ho, hv, Instr.mapUpdate, Sem.run_bind, Sem.run_pure, Result.andThen_ok, run_underlying hu, MapKept.run_getObj_map hob, hc, hrun, hmi2, Option.map_some, Option.getD_some, Instr.keyThatStays, hsame, if_true, g1]
     · cases he
   · cases he
 · cases he
theorem turns_clear (ha : AR E A n a) (hr : Rep w0 E h w) {o : Oper} {c : Call} {x : AV} {t : TypeId} {tl : List TypeId} {us : List U} (ho : o.op = .call c) (hc : c.callee = .builtin .clear) (hx : allSome (evA A) c.args.toList = some [x]) (ht : c.argTypes.toList = t :: tl)
  (he : evClear P h t x = some us) : Turns P w0 E a w o (.tup []) (apU h us) := by
 obtain ⟨v, hv, heq⟩ := args1 ha hx
 have h0 := ty0 ht
 unfold evClear at he
 split at he
 · rename_i kt e k hu
   obtain ⟨b, c', hk, hv⟩ := hv
   split at he
   · rename_i es cl hg
     cases he
     obtain ⟨ms, hob, hme⟩ := map_of hr hk hg
     obtain ⟨g1, g2⟩ := eff_set (P := P) hr hk hg hob (fun _ _ _ => by simp) (x' := .map #[] cl) (q' := .map [] cl) ⟨_, rfl, trivial⟩
     refine ⟨E, _, .tuple #[], Pre.refl E, g2, ⟨[], trivial, rfl⟩, .inl ?_⟩
     subst hv
     simp [execOp, ho, resolve, hc, heq, invoke, builtin, Builtin.clear_, h0, run_underlying hu, MapKept.run_getObj_map hob, g1]
   · cases he
 · cases he
theorem turns_delete (ha : AR E A n a) (hr : Rep w0 E h w) {o : Oper} {c : Call} {x y : AV} {t : TypeId} {tl : List TypeId} {us : List U} (ho : o.op = .call c) (hc : c.callee = .builtin .delete) (hx : allSome (evA A) c.args.toList = some [x, y]) (ht : c.argTypes.toList = t :: tl)
  (he : evDelete P h t x y = some us) : Turns P w0 E a w o (.tup []) (apU h us) := by
 obtain ⟨v, u, hv, hu', heq⟩ := args2 ha hx
 have h0 := ty0 ht
 unfold evDelete at he
 split at he
 · rename_i kt e k key hu
   obtain ⟨b, c', hk, hv⟩ := hv
   have h2 : V1 E key u := hu'
   split at he
   · rename_i es cl hko hg
     obtain ⟨ms, hob, hme⟩ := map_of hr hk hg
     have hck := check_ok (w := w) hko h2 ms.isEmpty
     split at he
     · rename_i hf
       cases he
       obtain ⟨g1, g2⟩ := eff_set (P := P) hr hk hg hob (fun _ _ _ => by simp) (x' := .map ms cl) (q' := .map es cl) ⟨_, rfl, hme⟩
       rcases find_ok (w := w) hko h2 hme hf with ⟨_, hrun⟩ | ⟨_, _, _, _, _, h4, _⟩
       · refine ⟨E, _, .tuple #[], Pre.refl E, g2, ⟨[], trivial, rfl⟩, .inl ?_⟩
         subst hv
         simp [execOp, ho, resolve, hc, heq, invoke, builtin, Builtin.delete_, h0, run_underlying hu, MapKept.run_getObj_map hob, hck, hrun, g1]
       · cases h4
     · rename_i i z hf
       cases he
       rcases find_ok (w := w) hko h2 hme hf with ⟨h4, _⟩ | ⟨j, y', u', e0, m0, h4, _, hrun, hei, hmi, hkey⟩
       · cases h4
       · injection h4 with h4
         injection h4 with h4 h5
         subst h4
         obtain ⟨g1, g2⟩ := eff_set (P := P) hr hk hg hob (fun _ _ _ => by simp) (x' := .map (ms.eraseIdxIfInBounds i) cl) (q' := .map (es.eraseIdx i) cl) ⟨_, rfl, by
          have : (ms.eraseIdxIfInBounds i).toList = ms.toList.eraseIdx i := by
           have hlt : i < ms.size := by rw [← Array.length_toList]; exact (List.getElem?_eq_some_iff.1 hmi).1
           rw [Array.eraseIdxIfInBounds, dif_pos hlt, Array.toList_eraseIdx]
          rw [this]
          exact hme.eraseIdx i⟩
         refine ⟨E, _, .tuple #[], Pre.refl E, g2, ⟨[], trivial, rfl⟩, .inl ?_⟩
         subst hv
         simp [execOp, ho, resolve, hc, heq, invoke, builtin, Builtin.delete_, h0, run_underlying hu, MapKept.run_getObj_map hob, hck, hrun, g1]
     · cases he
   · cases he
 · cases he
theorem turns_copy (ha : AR E A n a) (hr : Rep w0 E h w) {o : Oper} {c : Call} {x y r : AV} {t : TypeId} {tl : List TypeId} {us : List U} (ho : o.op = .call c) (hc : c.callee = .builtin .copy) (hx : allSome (evA A) c.args.toList = some [x, y]) (ht : c.argTypes.toList = t :: tl)
  (he : evCopy P h t x y = some (r, us)) : Turns P w0 E a w o r (apU h us) := by
 obtain ⟨v, u, hv, hu', heq⟩ := args2 ha hx
 have h0 := ty0 ht
 unfold evCopy at he
 split at he
 · cases he
 · rename_i e hel
   split at he
   · rename_i z k f i ce k2 f2 j ce2 hs
     obtain ⟨b, c', hk, hv, _⟩ := hv
     obtain ⟨b2, c2', hk2, hv2, _⟩ := hu'
     split at he
     · rename_i cs q hcs hg
       split at he
       · rename_i l hl
         split at he
         · rename_i l' hov
           cases hre : reRow q l' with
           | none => simp [hre] at he
           | some q' =>
            simp only [hre, Option.map_some, Option.some.injEq, Prod.mk.injEq] at he
            obtain ⟨rfl, rfl⟩ := he
            unfold cellsIn at hcs
            cases hg2 : h.get k2 with
            | none => simp [hg2] at hcs
            | some q2 =>
             cases hl2 : rowOf q2 with
             | none => simp [hg2, hl2] at hcs
             | some l2 =>
              simp only [hg2, hl2, Option.bind_some] at hcs
              obtain ⟨vs, hvs, hlen, hra⟩ := range_at hr hk2 hg2 hl2 hcs
              have hld : (loadCells ⟨b2, f2, none⟩ (vs.take (Nat.min j i * z)).length).run P w = .ok (vs.take (Nat.min j i * z)).toArray w :=
               run_loadCells_list (P := P) w ⟨b2, f2, none⟩ _ (fun m v hv => by
                rw [Addr.add_mid]
                rw [List.getElem?_take] at hv
                split at hv
                · exact hra m v hv
                · cases hv)
              have hmin : Nat.min j i * z ≤ vs.length := by
               rw [hlen]
               exact Nat.mul_le_mul_right _ (Nat.min_le_left _ _)
              have hlen2 : (vs.take (Nat.min j i * z)).length = Nat.min j i * z := by rw [List.length_take]; omega
              rw [hlen2] at hld
              obtain ⟨g1, g2⟩ := eff_write (P := P) hr hk hg hl hov hre (hvs.take (Nat.min j i * z))
              refine ⟨E, _, .int .i64 (Nat.min j i : Nat), Pre.refl E, g2, rfl, .inl ?_⟩
              subst hv
              subst hv2
              have h1 : c.argTypes[0]? = some t := h0
              simp only [execOp, ho, resolve, hc, heq, invoke, builtin, Builtin.copy_, Sem.run_bind, Sem.run_pure, Result.andThen_ok, h1, List.getElem?_toArray, List.getElem?_cons_zero, List.getElem?_cons_succ, run_underlying (elem_ok hel), Builtin.lenOf, Builtin.firstCells, run_size hs, hld, goInt]
              simp only [g1, Result.andThen_ok, Sem.run_pure]
         · cases he
       · cases he
     · cases he
   · cases he
end
end Go.Ev
