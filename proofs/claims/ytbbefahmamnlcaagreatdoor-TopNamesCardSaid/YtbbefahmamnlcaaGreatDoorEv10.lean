/- The reckoner is right: what turns memory, first part. -/
import Derived.Test.YtbbefahmamnlcaaGreatDoorEv9
import Derived.Laws.MakeOwn
import Derived.Laws.AppendOwn
set_option linter.unusedVariables false
set_option linter.unusedSimpArgs false
set_option linter.unusedSectionVars false
namespace Go.Ev
open Go Go.RowKit
section
variable {E : List Ent} {A : Fr} {n : Nat} {a : Act} {P : Program} {w0 w : World} {h : Hp}
/-- A list, a part of it overwritten. -/
def overV (vs : List Value) (o : Nat) (us : List Value) : List Value := vs.take o ++ us ++ vs.drop (o + us.length)
theorem overV_take {vs us : List Value} {o L : Nat} (h1 : o + us.length ≤ L) (h2 : L ≤ vs.length) : (overV vs o us).take L = overV (vs.take L) o us := by
 unfold overV
 apply List.ext_getElem?
 intro k
 rw [List.getElem?_take]
 by_cases hk : k < L
 · rw [if_pos hk, List.append_assoc, List.append_assoc]
   by_cases h3 : k < o
   · rw [List.getElem?_append_left (by simp; omega), List.getElem?_append_left (by simp; omega), List.getElem?_take, List.getElem?_take, List.getElem?_take, if_pos hk]
   · have e1 : (vs.take o).length = o := by simp; omega
     have e2 : ((vs.take L).take o).length = o := by simp; omega
     rw [List.getElem?_append_right (l₁ := vs.take o) (by omega), List.getElem?_append_right (l₁ := (vs.take L).take o) (by omega), e1, e2]
     by_cases h4 : k - o < us.length
     · rw [List.getElem?_append_left h4, List.getElem?_append_left h4]
     · rw [List.getElem?_append_right (l₁ := us) (l₂ := vs.drop (o + us.length)) (by omega), List.getElem?_append_right (l₁ := us) (by omega), List.getElem?_drop, List.getElem?_drop, List.getElem?_take, if_pos (by omega)]
 · rw [if_neg hk]
   symm
   apply List.getElem?_eq_none
   simp
   omega
theorem blk_set {b t : Nat} {fr : Nat × Nat} {W : World} {cs : Array Value} (h : W.heap[b]? = some (.cells cs t fr)) (o : Nat) (v : Value) : (W.setCell ⟨b, o, none⟩ v).heap[b]? = some (.cells (cs.setIfInBounds o v) t fr) := by
 have hlt : b < W.heap.size := (Array.getElem?_eq_some_iff.1 h).1
 have hg : W.heap[b] = .cells cs t fr := (Array.getElem?_eq_some_iff.1 h).2
 simp only [World.setCell, Array.getElem?_modify, h, Option.map_some, if_pos]
 rfl
theorem setCells_far (b : Nat) : ∀ (vs : List Value) (o : Nat) (W : World) (k : Nat), k ≠ b → (W.setCells b o vs).heap[k]? = W.heap[k]?
 | [], _, _, _, _ => rfl
 | v :: r, o, W, k, hk => by
  rw [World.setCells, setCells_far b r (o + 1) _ k hk]
  exact Below.heap_setCell W ⟨b, o, none⟩ v k hk
theorem setCells_size (b : Nat) : ∀ (vs : List Value) (o : Nat) (W : World), (W.setCells b o vs).heap.size = W.heap.size
 | [], _, _ => rfl
 | v :: r, o, W => by
  rw [World.setCells, setCells_size b r (o + 1) _]
  simp [World.setCell]
theorem below_setCells {B b : Nat} (hb : B ≤ b) : ∀ (vs : List Value) (o : Nat) (W : World), Below B w0 W → Below B w0 (W.setCells b o vs)
 | [], _, _, h => h
 | v :: r, o, W, h => below_setCells hb r (o + 1) _ (h.setCell (p := ⟨b, o, none⟩) hb v)
theorem setCells_row {b t : Nat} {fr : Nat × Nat} : ∀ (vs : List Value) (o : Nat) (W : World) (cs : Array Value), W.heap[b]? = some (.cells cs t fr) → o + vs.length ≤ cs.size →
   ∃ cs', (W.setCells b o vs).heap[b]? = some (.cells cs' t fr) ∧ cs'.size = cs.size ∧ cs'.toList = overV cs.toList o vs
 | [], o, W, cs, h, _ => ⟨cs, h, rfl, by simp [overV]⟩
 | v :: r, o, W, cs, h, hl => by
  simp only [List.length_cons] at hl
  obtain ⟨cs', h1, h2, h3⟩ := setCells_row r (o + 1) (W.setCell ⟨b, o, none⟩ v) _ (blk_set h o v) (by rw [Array.size_setIfInBounds]; omega)
  refine ⟨cs', h1, by simpa using h2, ?_⟩
  rw [h3]
  have hsz : cs.toList.length = cs.size := Array.length_toList
  unfold overV
  have e1 : (cs.setIfInBounds o v).toList = cs.toList.set o v := by simp
  rw [e1]
  apply List.ext_getElem?
  intro k
  rw [List.append_assoc, List.append_assoc]
  by_cases h4 : k < o
  · rw [List.getElem?_append_left (by simp; omega), List.getElem?_append_left (by simp; omega), List.getElem?_take, List.getElem?_take, if_pos (by omega), if_pos h4, List.getElem?_set, if_neg (by omega)]
  · have l2 : (cs.toList.take o).length = o := by simp; omega
    have l1 : ((cs.toList.set o v).take (o + 1)).length = o + 1 := by simp; omega
    rw [List.getElem?_append_right (l₁ := cs.toList.take o) (by omega), l2]
    by_cases h5 : k = o
    · subst h5
      rw [List.getElem?_append_left (l₁ := (cs.toList.set k v).take (k + 1)) (by omega), List.getElem?_take, if_pos (by omega), List.getElem?_set, if_pos rfl, if_pos (by omega), Nat.sub_self]
      rfl
    · rw [List.getElem?_append_right (l₁ := (cs.toList.set o v).take (o + 1)) (by omega), l1, show k - o = (k - (o + 1)) + 1 by omega, List.cons_append, List.getElem?_cons_succ]
      by_cases h6 : k - (o + 1) < r.length
      · rw [List.getElem?_append_left h6, List.getElem?_append_left h6]
      · rw [List.getElem?_append_right (by omega), List.getElem?_append_right (by omega), List.getElem?_drop, List.getElem?_drop, List.getElem?_set, if_neg (by omega)]
        congr 1
        simp
        omega
theorem over_allV {l cs m : List A1} {o : Nat} {vs us : List Value} (h : over l o cs = some m) (hl : All2 (V1 E) l vs) (hc : All2 (V1 E) cs us) : All2 (V1 E) m (overV vs o us) := over_all h hl hc
theorem over_len {l cs m : List A1} {o : Nat} (h : over l o cs = some m) : m.length = l.length := by
 obtain ⟨h1, rfl⟩ := over_ok h
 simp
 omega
/-- Some cells of a block that is told of are written over. -/
theorem eff_write (hr : Rep w0 E h w) {k b c o : Nat} {q q' : AO} {l l' cs : List A1} {us : List Value} (hk : E[k]? = some (.blk b c)) (hq : h.get k = some q) (hl : rowOf q = some l) (hov : over l o cs = some l') (hre : reRow q l' = some q') (hus : All2 (V1 E) cs us) :
  (storeCells ⟨b, o, none⟩ us).run P w = .ok () (w.setCells b o us) ∧ Rep w0 E (h.put k q') (w.setCells b o us) := by
 obtain ⟨vs, t, fr, h1, h2, h3, h4⟩ := cells_of hr hk hq hl
 obtain ⟨h5, _⟩ := over_ok hov
 have hlen : cs.length = us.length := hus.length
 obtain ⟨vs', g1, g2, g3⟩ := setCells_row us o w vs h1 (by omega)
 refine ⟨?_, ?_⟩
 · have := run_storeCells_cells (P := P) b o us 0 w (fun j hj => ?_) (fun j hj => ?_) (fun v hv => ?_)
   · simpa using this
   · rw [cell_eq h1]
     simp
     omega
   · have hle : o + 0 + j < vs.size := by omega
     simp only [World.frozen?, h1]
     rcases h2 with h2 | h2
     · have : ¬ fr.1 ≤ o + 0 + j := by omega
       simp [this]
       intro h9
       omega
     · subst h2
       simp
   · obtain ⟨x, _, hx⟩ := hus.mem v hv
     exact V1.oneCell x v hx
 · have hlt := hr.old k b c hk
   refine hr.put hk hq (below_setCells hlt.1 us o w hr.below) (by rw [setCells_size]; exact Nat.le_refl _) ?_ (fun j hj _ => setCells_far b us o w j hj)
   rw [g1]
   have h1' := (hr.obj k q (lt_of_get hr hk) hq).is hk
   cases q with
   | cells t' m =>
    cases hl
    cases hre
    obtain ⟨cs0, fr0, k1, k2, k3⟩ := h1'
    rw [h1] at k1
    cases k1
    refine ⟨vs', fr, rfl, by rw [g2]; exact h2, ?_⟩
    rw [g3]
    exact over_allV hov k3 hus
   | row t' z m =>
    cases hl
    cases hre
    obtain ⟨cs0, fr0, k1, k2, k3, k4, k5⟩ := h1'
    rw [h1] at k1
    cases k1
    refine ⟨vs', fr, rfl, by rw [g2]; exact h2, by rw [g2]; exact k3, k4, ?_⟩
    rw [g3, over_len hov, overV_take (by omega) (by rw [Array.length_toList]; exact h3)]
    exact over_allV hov k5 hus
   | map _ _ => cases hl
   | iter _ _ _ _ => cases hl
   | siter _ _ => cases hl
   | clo _ _ => cases hl
   | ifc _ _ => cases hl
/-- What a turning operation's proof shows. -/
def Turns (P : Program) (w0 : World) (E : List Ent) (a : Act) (w : World) (o : Oper) (y : AV) (h' : Hp) : Prop :=
 ∃ E' w' v, Pre E E' ∧ Rep w0 E' h' w' ∧ VV E' y v ∧ ((execOp a.eval o).run P w = .ok (.value v) w' ∨ ((execOp a.eval o).run P w = .ok .skip w' ∧ v = undef))
theorem turns_store (ha : AR E A n a) (hr : Rep w0 E h w) {o : Oper} {t : TypeId} {x y : Operand} {p q : AV} {us : List U} (ho : o.op = .store t x y) (hx : evA A x = some p) (hy : evA A y = some q) (he : evStore P t p q h = some us) : Turns P w0 E a w o undefA (apU h us) := by
 have h1 := evA_ok ha x p hx
 have h2 := evA_ok ha y q hy
 unfold evStore at he
 split at he
 · rename_i k f z
   obtain ⟨b, c, hk, hv⟩ := h1
   split at he
   · rename_i ob m hg hs
     split at he
     · rename_i hlen
       split at he
       · rename_i l hl
         split at he
         · rename_i l' hov
           cases hre : reRow ob l' with
           | none => simp [hre] at he
           | some q' =>
            simp only [hre, Option.map_some, Option.some.injEq] at he
            subst he
            have hz : All2 (V1 E) z.cells (a.eval y).cells.toList := V2.cells h2
            obtain ⟨g1, g2⟩ := eff_write (P := P) hr hk hg hl hov hre hz
            refine ⟨E, _, undef, Pre.refl E, g2, undef_ok, .inr ⟨?_, rfl⟩⟩
            have hsz : ¬ ((a.eval y).cells.size ≠ m) := by
             have := hz.length.trans Array.length_toList
             omega
            simp only [execOp, ho, hv, Instr.storeAt, Instr.sureAddr, storeVar, Sem.run_bind, Sem.run_pure, Result.andThen_ok, run_size hs, if_neg hsz, g1]
         · cases he
       · cases he
     · cases he
   · cases he
 · cases he
/-- A new block of cells. -/
theorem alloc_cells (hr : Rep w0 E h w) {l : List A1} {cs : Array Value} {t : TypeId} (c : Nat) (hn : h.n < 2 ^ D) (hl : All2 (V1 E) l cs.toList) : Rep w0 (E ++ [.blk w.heap.size c]) (h.new (.cells t l)) (w.alloc (.cells cs t)) :=
 hr.alloc c hn ⟨cs, (0, 0), rfl, .inr rfl, hl.imp (V1.ext (Ext.one E _))⟩
theorem last_new (hr : Rep w0 E h w) (e : Ent) : (E ++ [e])[h.n]? = some e := by rw [← hr.len]; simp
theorem turns_new (ha : AR E A n a) (hr : Rep w0 E h w) {o : Oper} {t : TypeId} {x : A2} {v : Value} {r : AV} {us : List U} (hx : V2 E x v) (he : evNew h t x = some (r, us))
  (hrun : (execOp a.eval o).run P w = .ok (.value (.pointer (some ⟨w.heap.size, 0, none⟩))) (w.alloc (.cells v.cells t))) : Turns P w0 E a w o r (apU h us) := by
 unfold evNew at he
 split at he
 · rename_i hn
   cases he
   refine ⟨_, _, _, Pre.one E _, alloc_cells hr 0 hn (V2.cells hx), ⟨w.heap.size, 0, last_new hr _, rfl⟩, .inl hrun⟩
 · cases he
theorem turns_alloc (ha : AR E A n a) (hr : Rep w0 E h w) {o : Oper} {t : TypeId} {z : A2} {r : AV} {us : List U} (ho : o.op = .alloc t) (hz : zeroT P t = some z) (he : evNew h t z = some (r, us)) : Turns P w0 E a w o r (apU h us) := by
 obtain ⟨v, hv, hrun⟩ := zero_ok (E := E) hz
 refine turns_new ha hr hv he ?_
 simp only [execOp, ho, Instr.alloc, newVar, newRow, Sem.run_bind, hrun, Result.andThen_ok, Sem.run_pure, run_newObj]
 rfl
theorem turns_box (ha : AR E A n a) (hr : Rep w0 E h w) {o : Oper} {t : TypeId} {x : Operand} {z : A2} {r : AV} {us : List U} (ho : o.op = .box t x) (hx : evA A x = some (.v z)) (he : evNew h t z = some (r, us)) : Turns P w0 E a w o r (apU h us) := by
 refine turns_new ha hr (evA_ok ha x _ hx) he ?_
 simp only [execOp, ho, Instr.box, newVar, newRow, Sem.run_bind, Result.andThen_ok, Sem.run_pure, run_newObj]
 rfl
/-! ### Rows of noughts -/
theorem made_list (z : Array Value) (m : Nat) : (madeCells z (m * z.size)).toList = (List.replicate m z.toList).flatten := by
 induction m with
 | zero => simp [madeCells, Array.range_zero']
 | succ m ih =>
  rw [List.replicate_succ', List.flatten_append, ← ih]
  have e1 : (madeCells z ((m + 1) * z.size)).toList = (List.range ((m + 1) * z.size)).map (fun i => z[i % z.size]!) := by simp [madeCells, Array.toList_range]
  have e2 : (madeCells z (m * z.size)).toList = (List.range (m * z.size)).map (fun i => z[i % z.size]!) := by simp [madeCells, Array.toList_range]
  rw [e1, e2, Nat.succ_mul, List.range_add, List.map_append]
  congr 1
  simp only [List.flatten_cons, List.flatten_nil, List.append_nil]
  apply List.ext_getElem?
  intro k
  rw [List.map_map, List.getElem?_map]
  by_cases hk : k < z.size
  · rw [List.getElem?_range hk]
    simp only [Option.map_some, Function.comp]
    rw [Nat.mul_comm m, Nat.mul_add_mod, Nat.mod_eq_of_lt hk, Array.getElem?_toList]
    simp [hk]
  · rw [List.getElem?_eq_none (by simp; omega), List.getElem?_eq_none (by simp; omega)]
    rfl
theorem zeros_ok {l : List A1} {vs : List Value} (h : All2 (V1 E) l vs) (m : Nat) : All2 (V1 E) (zeros l m) (List.replicate m vs).flatten := by
 unfold zeros
 induction m with
 | zero => trivial
 | succ m ih =>
  rw [List.replicate_succ, List.replicate_succ, List.flatten_cons, List.flatten_cons]
  exact h.append ih
theorem info_of {t : TypeId} {z : A2} (hz : zeroT P t = some z) : ∃ i v, P.info? t = some i ∧ i.zero = some v ∧ V2 E z v := by
 unfold zeroT at hz
 cases hi : P.info? t with
 | none => rw [hi] at hz; cases hz
 | some i =>
  cases hv : i.zero with
  | none => simp [hi, hv] at hz
  | some v =>
   refine ⟨i, v, rfl, hv, asA2_ok v z ?_⟩
   simpa [hi, hv] using hz
theorem size_of {t : TypeId} {m : Nat} {i : TypeInfo} (hi : P.info? t = some i) (hs : sizeT P t = some m) : i.size = m := by
 unfold sizeT at hs
 rw [hi] at hs
 exact Option.some.inj hs
theorem bytes_of {t : TypeId} {m : Nat} {i : TypeInfo} (hi : P.info? t = some i) (hs : bytesT P t = some m) : i.bytes = m := by
 unfold bytesT at hs
 rw [hi] at hs
 exact Option.some.inj hs
theorem turns_makeSlice (ha : AR E A n a) (hr : Rep w0 E h w) {o : Oper} {t : TypeId} {x y : Operand} {p q r : AV} {us : List U} (ho : o.op = .makeSlice t x y) (hx : evA A x = some p) (hy : evA A y = some q) (he : evMakeSlice P h t p q = some (r, us)) : Turns P w0 E a w o r (apU h us) := by
 have h1 := evA_ok ha x p hx
 have h2 := evA_ok ha y q hy
 unfold evMakeSlice at he
 split at he
 · rename_i e i j hel hi hj
   obtain ⟨k1, hv1⟩ := intOf_ok hi h1
   obtain ⟨k2, hv2⟩ := intOf_ok hj h2
   split at he
   · rename_i z m by_ hz hs hb
     split at he
     · rename_i hc
       obtain ⟨c1, c2, c3, c4, c5, c6⟩ := hc
       cases he
       obtain ⟨info, v, hi1, hi2, hv⟩ := info_of (E := E) hz
       have hsz := size_of hi1 hs
       have hby := bytes_of hi1 hb
       have hcells := V2.cells hv
       have hvs : v.cells.size = m := by rw [← Array.length_toList, ← hcells.length]; exact c5
       have hmul : (info.bytes : Int) * j ≤ 281474976710656 := by
        rw [hby]
        have : (by_ : Int) * j ≤ 1000000 * 1000000 := Int.mul_le_mul (by omega) c3 (by omega) (by omega)
        omega
       have hrun := run_make (P := P) w t e info v (elem_ok hel) hi1 hi2 k1 k2 i j c1 c2 hmul (by omega)
       refine ⟨_, _, _, Pre.one E _, alloc_cells hr 0 c6 (cs := madeCells v.cells (j.toNat * info.size)) (t := e) ?_, ⟨w.heap.size, 0, last_new hr _, rfl, ?_⟩, .inl ?_⟩
       · rw [hsz, ← hvs, made_list]
         exact zeros_ok hcells _
       · show i.toNat ≤ j.toNat
         omega
       · simp only [execOp, ho, hv1, hv2, Sem.run_bind, hrun, Result.andThen_ok, Sem.run_pure]
         rfl
     · cases he
   · cases he
 · cases he
end
end Go.Ev
