/- The reckoner is right: what reads memory. -/
import Derived.Test.YtbbefahmamnlcaaGreatDoorEv8
import Derived.Deep.MidRow
import Derived.MapKept
import Derived.Laws.IdiomRangeMap
set_option linter.unusedVariables false
set_option linter.unusedSimpArgs false
set_option linter.unusedSectionVars false
namespace Go.Ev
open Go Go.RowKit
section
variable {E : List Ent} {A : Fr} {n : Nat} {a : Act} {P : Program} {w0 w : World} {h : Hp}
theorem cells_of (hr : Rep w0 E h w) {k b c : Nat} {q : AO} {l : List A1} (hk : E[k]? = some (.blk b c)) (hq : h.get k = some q) (hl : rowOf q = some l) :
  ∃ cs t fr, w.heap[b]? = some (.cells cs t fr) ∧ FrOk cs.size fr ∧ l.length ≤ cs.size ∧ All2 (V1 E) l (cs.toList.take l.length) := by
 have h1 := (hr.obj k q (lt_of_get hr hk) hq).is hk
 cases q with
 | cells t m =>
  cases hl
  obtain ⟨cs, fr, h2, h3, h4⟩ := h1
  refine ⟨cs, t, fr, h2, h3, by rw [h4.length]; simp, ?_⟩
  rw [h4.length, List.take_length]
  exact h4
 | row t z m =>
  cases hl
  obtain ⟨cs, fr, h2, h3, _, _, h4⟩ := h1
  have h5 := h4.length
  rw [List.length_take] at h5
  have h6 : cs.toList.length = cs.size := Array.length_toList
  refine ⟨cs, t, fr, h2, h3, ?_, h4⟩
  omega
 | map _ _ => cases hl
 | iter _ _ _ _ => cases hl
 | siter _ _ => cases hl
 | clo _ _ => cases hl
 | ifc _ _ => cases hl
theorem cell_eq {b o : Nat} {cs : Array Value} {t : TypeId} {fr : Nat × Nat} (hb : w.heap[b]? = some (.cells cs t fr)) : w.cell? ⟨b, o, none⟩ = cs[o]? := by
 simp [World.cell?, hb]
theorem cell_at (hr : Rep w0 E h w) {k b c o : Nat} {q : AO} {l : List A1} {y : A1} (hk : E[k]? = some (.blk b c)) (hq : h.get k = some q) (hl : rowOf q = some l) (hy : l[o]? = some y) :
  ∃ v, V1 E y v ∧ w.cell? ⟨b, o, none⟩ = some v := by
 obtain ⟨cs, t, fr, h1, h2, h3, h4⟩ := cells_of hr hk hq hl
 obtain ⟨v, hv, hvv⟩ := h4.get o y hy
 refine ⟨v, hvv, ?_⟩
 rw [cell_eq h1]
 rw [List.getElem?_take] at hv
 split at hv
 · rw [← Array.getElem?_toList]
   exact hv
 · cases hv
theorem range_at (hr : Rep w0 E h w) {k b c o m : Nat} {q : AO} {l s : List A1} (hk : E[k]? = some (.blk b c)) (hq : h.get k = some q) (hl : rowOf q = some l) (hs : seg l o m = some s) :
  ∃ vs : List Value, All2 (V1 E) s vs ∧ vs.length = m ∧ w.rangeAt b o vs := by
 obtain ⟨cs, t, fr, h1, h2, h3, h4⟩ := cells_of hr hk hq hl
 obtain ⟨h5, rfl⟩ := seg_ok hs
 refine ⟨((cs.toList.take l.length).drop o).take m, (h4.drop o).take m, ?_, fun j v hj => ?_⟩
 · simp
   omega
 · rw [cell_eq h1, ← Array.getElem?_toList]
   rw [List.getElem?_take] at hj
   split at hj
   · rw [List.getElem?_drop, List.getElem?_take] at hj
     split at hj
     · exact hj
     · cases hj
   · cases hj
/-- What a reading operation's proof shows. -/
def Reads (P : Program) (E : List Ent) (a : Act) (w : World) (o : Oper) (y : AV) : Prop := ∃ v, VV E y v ∧ (execOp a.eval o).run P w = .ok (.value v) w
theorem reads_load (ha : AR E A n a) (hr : Rep w0 E h w) {o : Oper} {t : TypeId} {x : Operand} {p r : AV} (ho : o.op = .load t x) (hx : evA A x = some p) (he : evLoad P t p h = some r) : Reads P E a w o r := by
 have h1 := evA_ok ha x p hx
 unfold evLoad at he
 split at he
 · rename_i k q
   obtain ⟨b, c, hk, hv⟩ := h1
   cases hg : h.get k with
   | none => simp [hg] at he
   | some ob =>
    simp only [hg, Option.bind_some] at he
    split at he
    · rename_i l hl hag
      cases hy : l[q]? with
      | none => simp [hy] at he
      | some y =>
       simp only [hy, Option.map_some, Option.some.injEq] at he
       subst he
       obtain ⟨v, hvv, hc⟩ := cell_at hr hk hg hl hy
       exact ⟨v, hvv, by simp [execOp, ho, hv, Instr.loadAt, Instr.sureAddr, loadVar, run_agg hag, run_load, hc]⟩
    · rename_i l hl hag
      split at he
      · rename_i m hm
        cases hs : seg l q m with
        | none => simp [hs] at he
        | some s =>
         simp only [hs, Option.map_some, Option.some.injEq] at he
         subst he
         obtain ⟨vs, hvs, hlen, hra⟩ := range_at hr hk hg hl hs
         have hl : (loadCells ⟨b, q, none⟩ vs.length).run P w = .ok vs.toArray w :=
          run_loadCells_list (P := P) w ⟨b, q, none⟩ vs (fun j v hv => by rw [Addr.add_mid]; exact hra j v hv)
         rw [hlen] at hl
         exact ⟨.agg vs.toArray, ⟨vs, hvs, rfl⟩, by simp [execOp, ho, hv, Instr.loadAt, Instr.sureAddr, loadVar, run_agg hag, run_size hm, hl]⟩
      · cases he
    · cases he
 · cases he
theorem map_of (hr : Rep w0 E h w) {k b c cl : Nat} {es : List (A1 × A2 × Nat)} (hk : E[k]? = some (.blk b c)) (hq : h.get k = some (.map es cl)) : ∃ ms, w.heap[b]? = some (.map ms cl) ∧ All2 (ME E) es ms.toList :=
 (hr.obj k _ (lt_of_get hr hk) hq).is hk
theorem key_ok {kt : TypeId} {key : A1} {v : Value} (hk : keyOk (P.underlying kt) key = true) (hv : V1 E key v) : ∃ d, P.underlying kt = some d ∧ ((∃ q j i, d = .int q ∧ v = .int j i ∧ key = .i j i) ∨ (d = .string ∧ ∃ s, v = .string s)) := by
 unfold keyOk at hk
 split at hk
 · rename_i hd
   exact ⟨_, hd, .inl ⟨_, _, _, rfl, hv, rfl⟩⟩
 · rename_i hd
   exact ⟨_, hd, .inr ⟨rfl, _, hv.1⟩⟩
 · cases hk
theorem check_ok {kt : TypeId} {key : A1} {v : Value} (hk : keyOk (P.underlying kt) key = true) (hv : V1 E key v) (e : Bool) : (Instr.checkKey e 10000 kt v).run P w = .ok () w := by
 show (Instr.checkKey e (9999 + 1) kt v).run P w = .ok () w
 obtain ⟨d, hd, ⟨q, j, i, rfl, rfl, _⟩ | ⟨rfl, s, rfl⟩⟩ := key_ok hk hv
 · unfold Instr.checkKey
   simp only [Sem.run_bind, run_underlying hd, Result.andThen_ok]
   rfl
 · unfold Instr.checkKey
   simp only [Sem.run_bind, run_underlying hd, Result.andThen_ok]
   rfl
theorem find_ok {kt : TypeId} {key : A1} {v : Value} {es : List (A1 × A2 × Nat)} {ms : List MapEntry} {r : Option A2} (hk : keyOk (P.underlying kt) key = true) (hv : V1 E key v) (hm : All2 (ME E) es ms) (hf : findE key es = some r) :
  (r = none ∧ es = [] ∧ ms = [] ∧ (Instr.findKey kt v ms).run P w = .ok none w) ∨ ∃ x u, r = some x ∧ V2 E x u ∧ ∃ i, (Instr.findKey kt v ms).run P w = .ok (some (i, u)) w := by
 obtain ⟨d, hd, hcase⟩ := key_ok hk hv
 cases es with
 | nil =>
  cases ms with
  | nil =>
   cases hf
   exact .inl ⟨rfl, rfl, rfl, MapKept.run_findKey hd rfl⟩
  | cons _ _ => exact hm.elim
 | cons e es =>
  cases ms with
  | nil => exact hm.elim
  | cons m ms =>
   unfold findE at hf
   cases hs : sameKey key e.1 with
   | false => simp [hs] at hf
   | true =>
    simp only [hs, Option.some.injEq] at hf
    subst hf
    refine .inr ⟨e.2.1, m.val, rfl, hm.1.2.1, 0, MapKept.run_findKey hd ?_⟩
    have h1 : V1 E e.1 m.key := hm.1.1
    rcases hcase with ⟨q, j, i, rfl, rfl, rfl⟩ | ⟨rfl, s, rfl⟩
    · unfold sameKey at hs
      split at hs
      · rename_i k i' k' i'' e1 e2
        cases e1
        rw [e2] at h1
        have h1 : m.key = .int k' i'' := h1
        split at hs
        · rename_i hkk
          subst hkk
          simp [Instr.findNow, Instr.sameNow, h1, hs]
        · cases hs
      · cases hs
    · cases key <;> first
      | (exfalso; revert hs; simp [sameKey]; done)
      | (exfalso; revert hv; simp [V1]; done)
theorem reads_lookup (ha : AR E A n a) (hr : Rep w0 E h w) {o : Oper} {t : TypeId} {x i : Operand} {ok : Bool} {p q r : AV} (ho : o.op = .lookup t x i ok) (hx : evA A x = some p) (hi : evA A i = some q) (he : evLookup P h t p q ok = some r) : Reads P E a w o r := by
 have h1 := evA_ok ha x p hx
 have h2 := evA_ok ha i q hi
 unfold evLookup at he
 split at he
 · rename_i kt e es key hu hmap
   have h2 : V1 E key (a.eval i) := h2
   unfold mapOf at hmap
   split at hmap
   · rename_i k
     obtain ⟨b, c, hk, hv⟩ := h1
     cases hg : h.get k with
     | none => simp [hg] at hmap
     | some ob =>
      cases ob <;> simp only [hg] at hmap <;> first | (cases hmap; done) | skip
      rename_i es' cl
      cases hmap
      obtain ⟨ms, hb, hme⟩ := map_of hr hk hg
      split at he
      · rename_i y hko hf
        rcases find_ok (w := w) hko h2 hme hf with ⟨h3, _⟩ | ⟨y', u, h3, hu2, j, hrun⟩
        · cases h3
        · cases h3
          have hc := check_ok (w := w) hko h2 ms.isEmpty
          cases he
          cases ok
          · exact ⟨u, hu2, by simp [execOp, ho, hv, Instr.lookup, run_underlying hu, MapKept.run_getObj_map hb, hc, hrun]⟩
          · exact ⟨.tuple #[u, .bool true], ⟨[u, .bool true], ⟨hu2, rfl, trivial⟩, rfl⟩, by simp [execOp, ho, hv, Instr.lookup, run_underlying hu, MapKept.run_getObj_map hb, hc, hrun]⟩
      · rename_i hko hf
        rcases find_ok (w := w) hko h2 hme hf with ⟨_, _, _, hrun⟩ | ⟨y', u, h3, _⟩
        · split at he
          · rename_i z hz
            obtain ⟨u, hu2, hzr⟩ := zero_ok (E := E) hz
            have hc := check_ok (w := w) hko h2 ms.isEmpty
            cases he
            cases ok
            · exact ⟨u, hu2, by simp [execOp, ho, hv, Instr.lookup, run_underlying hu, MapKept.run_getObj_map hb, hc, hrun, hzr]⟩
            · exact ⟨.tuple #[u, .bool false], ⟨[u, .bool false], ⟨hu2, rfl, trivial⟩, rfl⟩, by simp [execOp, ho, hv, Instr.lookup, run_underlying hu, MapKept.run_getObj_map hb, hc, hrun, hzr]⟩
          · cases he
        · cases h3
      · cases he
   · cases hmap
 · cases he
theorem reads_lenM (ha : AR E A n a) (hr : Rep w0 E h w) {o : Oper} {c : Call} {x r : AV} {t : TypeId} {tl : List TypeId} (ho : o.op = .call c) (hc : c.callee = .builtin .len) (hx : allSome (evA A) c.args.toList = some [x]) (ht : c.argTypes.toList = t :: tl)
  (he : evLenM P h t x = some r) : Reads P E a w o r := by
 obtain ⟨v, hv, heq⟩ := args1 ha hx
 have h0 := ty0 ht
 unfold evLenM at he
 split at he
 · rename_i x _ _ kt e hu
   cases hmap : mapOf h x with
   | none => simp [hmap] at he
   | some es =>
    simp only [hmap, Option.map_some, Option.some.injEq] at he
    subst he
    unfold mapOf at hmap
    split at hmap
    · rename_i k
      obtain ⟨b, c', hk, hv⟩ := hv
      cases hg : h.get k with
      | none => simp [hg] at hmap
      | some ob =>
       cases ob <;> simp only [hg] at hmap <;> first | (cases hmap; done) | skip
       rename_i es' cl
       cases hmap
       obtain ⟨ms, hb, hme⟩ := map_of hr hk hg
       have hlen : es.length = ms.size := hme.length.trans Array.length_toList
       refine ⟨.int .i64 (es.length : Nat), rfl, ?_⟩
       subst hv
       simp [execOp, ho, resolve, hc, heq, invoke, builtin, Builtin.len_, h0, run_underlying hu, goInt, MapKept.run_getObj_map hb, hlen]
    · cases hmap
 · cases he
theorem find_born_ok {es : List (A1 × A2 × Nat)} {ms : List MapEntry} {s : Nat} {e : A1 × A2 × Nat} : All2 (ME E) es ms → (es.find? fun e => e.2.2 == s) = some e → ∃ m, (ms.find? fun m => m.born == s) = some m ∧ ME E e m := by
 induction es generalizing ms with
 | nil => intro _ h; cases h
 | cons x es ih =>
  cases ms with
  | nil => intro h; exact h.elim
  | cons m ms =>
   intro hm hf
   have hb : m.born = x.2.2 := hm.1.2.2
   rw [List.find?_cons] at hf ⊢
   rw [hb]
   cases hc : x.2.2 == s with
   | true =>
    simp only [hc, Option.some.injEq] at hf
    subst hf
    exact ⟨m, rfl, hm.1⟩
   | false =>
    simp only [hc] at hf
    exact ih hm.2 hf
theorem reads_entry (ha : AR E A n a) (hr : Rep w0 E h w) {o : Oper} {x : Operand} {p r : AV} (ho : o.op = .entry x) (hx : evA A x = some p) (he : evEntry h p = some r) : Reads P E a w o r := by
 have h1 := evA_ok ha x p hx
 unfold evEntry at he
 split at he
 · rename_i k
   obtain ⟨b, c, hk, hv⟩ := h1
   split at he
   · rename_i m since seen st hg
     obtain ⟨b', c', hk', hb⟩ := (hr.obj k _ (lt_of_get hr hk) hg).is hk
     split at he
     · rename_i es cl s hg' hs
       obtain ⟨ms, hb', hme⟩ := map_of hr hk' hg'
       split at he
       · rename_i hcl
         cases hf : es.find? fun e => e.2.2 == s with
         | none => simp [hf] at he
         | some e =>
          simp only [hf, Option.map_some, Option.some.injEq] at he
          subst he
          obtain ⟨me, hfm, hm⟩ := find_born_ok hme hf
          refine ⟨.tuple #[me.key, me.val], ⟨[me.key, me.val], ⟨hm.1, hm.2.1, trivial⟩, rfl⟩, ?_⟩
          have hback : (seen.toArray).back? = some s := by simpa using hs
          have hfa : ms.find? (fun x => x.born == s) = some me := by rw [← Array.find?_toList]; exact hfm
          subst hcl
          simp [execOp, ho, hv, Instr.entry, getObj, Sem.run, hb, hb', hback, hfa]
       · cases he
     · cases he
   · cases he
 · cases he
theorem isIface_ok {t : TypeId} (hi : isIface P t = some false) : ∃ d, P.underlying t = some d ∧ ∀ ms, d ≠ .interface ms := by
 unfold isIface at hi
 cases hd : P.underlying t with
 | none => simp [hd] at hi
 | some d =>
  refine ⟨d, rfl, ?_⟩
  rintro ms rfl
  simp [hd] at hi
theorem reads_assert (ha : AR E A n a) (hr : Rep w0 E h w) {o : Oper} {x : Operand} {xt want : TypeId} {ok : Bool} {p r : AV} (ho : o.op = .typeAssert x xt want ok) (hx : evA A x = some p) (he : evAssert P h p want ok = some r) : Reads P E a w o r := by
 have h1 := evA_ok ha x p hx
 unfold evAssert at he
 split at he
 · rename_i t k hi
   obtain ⟨d, hd, hne⟩ := isIface_ok hi
   obtain ⟨hk, y, hv⟩ := h1
   split at he
   · rename_i htw
     split at he
     · rename_i t' z hg
       obtain ⟨u, hk', hz⟩ : ∃ v : Value, E[k]? = some (.clo (.iface t' v)) ∧ V2 E z v := hr.obj k _ (lt_of_get hr hk) hg
       have heq : a.eval x = .iface t' u := by
        rw [hk] at hk'
        injection hk' with hk'
        injection hk'
       rw [hv] at heq
       cases heq
       cases he
       have hrun : ∀ f : Value → Sem Value, True := fun _ => trivial
       cases ok
       · refine ⟨y, hz, ?_⟩
         cases d <;> first | (exact absurd rfl (hne _)) | simp [execOp, ho, hv, Instr.typeAssert, run_underlying hd, htw]
       · refine ⟨.tuple #[y, .bool true], ⟨[y, .bool true], ⟨hz, rfl, trivial⟩, rfl⟩, ?_⟩
         cases d <;> first | (exact absurd rfl (hne _)) | simp [execOp, ho, hv, Instr.typeAssert, run_underlying hd, htw]
     · cases he
   · rename_i htw
     split at he
     · rename_i hok
       subst hok
       cases hz : zeroT P want with
       | none => simp [hz] at he
       | some z =>
        simp only [hz, Option.map_some, Option.some.injEq] at he
        subst he
        obtain ⟨u, hu2, hzr⟩ := zero_ok (E := E) hz
        refine ⟨.tuple #[u, .bool false], ⟨[u, .bool false], ⟨hu2, rfl, trivial⟩, rfl⟩, ?_⟩
        cases d <;> first | (exact absurd rfl (hne _)) | simp [execOp, ho, hv, Instr.typeAssert, run_underlying hd, htw, hzr]
     · cases he
 · cases he
theorem evRead_ok (ha : AR E A n a) (hr : Rep w0 E h w) {o : Oper} {r : AV} (he : evRead P A h o = some r) : Reads P E a w o r := by
 unfold evRead at he
 split at he
 · rename_i t x ho
   cases hx : evA A x with
   | none => simp [hx] at he
   | some p =>
    simp only [hx, Option.bind_some] at he
    exact reads_load ha hr ho hx he
 · rename_i t x i ok ho
   cases hx : evA A x with
   | none => simp [hx] at he
   | some p =>
    cases hi : evA A i with
    | none => simp [hx, hi] at he
    | some q =>
     simp only [hx, hi, Option.bind_some] at he
     exact reads_lookup ha hr ho hx hi he
 · rename_i x ho
   cases hx : evA A x with
   | none => simp [hx] at he
   | some p =>
    simp only [hx, Option.bind_some] at he
    exact reads_entry ha hr ho hx he
 · rename_i x xt want ok ho
   cases hx : evA A x with
   | none => simp [hx] at he
   | some p =>
    simp only [hx, Option.bind_some] at he
    exact reads_assert ha hr ho hx he
 · rename_i c ho
   split at he
   · rename_i x t tl hc hx ht
     exact reads_lenM ha hr ho hc hx ht he
   · cases he
 · cases he
end
end Go.Ev
