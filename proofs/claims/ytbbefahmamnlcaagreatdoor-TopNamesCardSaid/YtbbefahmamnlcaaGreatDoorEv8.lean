/- The reckoner is right: what reads no memory, third part. -/
import Derived.Test.YtbbefahmamnlcaaGreatDoorEv7
set_option linter.unusedVariables false
set_option linter.unusedSimpArgs false
set_option linter.unusedSectionVars false
namespace Go.Ev
open Go Go.RowKit
section
variable {E : List Ent} {A : Fr} {n : Nat} {a : Act} {P : Program}
theorem args1 {c : Call} {x : AV} (hr : AR E A n a) (h : allSome (evA A) c.args.toList = some [x]) : ∃ v, VV E x v ∧ c.args.map a.eval = #[v] := by
 have h1 := args_ok hr h
 have hl := h1.length
 have e : c.args.map a.eval = (c.args.toList.map a.eval).toArray := Array.ext' (by rw [Array.toList_map])
 rw [e]
 cases h2 : c.args.toList.map a.eval with
 | nil => rw [h2] at hl; cases hl
 | cons v l =>
  rw [h2] at h1
  cases l with
  | nil => exact ⟨v, h1.1, rfl⟩
  | cons _ _ => exact h1.2.elim
theorem args2 {c : Call} {x y : AV} (hr : AR E A n a) (h : allSome (evA A) c.args.toList = some [x, y]) : ∃ v u, VV E x v ∧ VV E y u ∧ c.args.map a.eval = #[v, u] := by
 have h1 := args_ok hr h
 have e : c.args.map a.eval = (c.args.toList.map a.eval).toArray := Array.ext' (by rw [Array.toList_map])
 rw [e]
 cases h2 : c.args.toList.map a.eval with
 | nil => rw [h2] at h1; exact h1.elim
 | cons v l =>
  rw [h2] at h1
  cases l with
  | nil => exact h1.2.elim
  | cons u l =>
   cases l with
   | nil => exact ⟨v, u, h1.1, h1.2.1, rfl⟩
   | cons _ _ => exact h1.2.2.elim
theorem argsN {c : Call} {l : List AV} (hr : AR E A n a) (h : allSome (evA A) c.args.toList = some l) : ∃ vs, All2 (VV E) l vs ∧ c.args.map a.eval = vs.toArray :=
 ⟨_, args_ok hr h, Array.ext' (by rw [Array.toList_map])⟩
theorem ty0 {c : Call} {t : TypeId} {l : List TypeId} (h : c.argTypes.toList = t :: l) : c.argTypes[0]? = some t := by
 rw [← Array.getElem?_toList, h]
 rfl
theorem gives_len (hr : AR E A n a) {o : Oper} {c : Call} {x r : AV} {t : TypeId} {tl : List TypeId} (ho : o.op = .call c) (hc : c.callee = .builtin .len) (hx : allSome (evA A) c.args.toList = some [x]) (ht : c.argTypes.toList = t :: tl)
  (h : evLenP P t x = some r) : Gives P E a o r := by
 obtain ⟨v, hv, he⟩ := args1 hr hx
 have h0 := ty0 ht
 unfold evLenP at h
 split at h
 · rename_i l hu
   cases h
   obtain ⟨e1, _⟩ := VV.str hv
   subst e1
   refine ⟨.int .i64 (l.length : Nat), rfl, fun w => ?_⟩
   simp [execOp, ho, resolve, hc, he, invoke, builtin, Builtin.len_, h0, run_underlying hu, goInt, bytes_size]
 · cases h
 · rename_i e y hu hne
   unfold lenIn at h
   split at h
   · cases h
     have e1 : v = .slice none 0 0 := hv
     subst e1
     refine ⟨.int .i64 0, rfl, fun w => ?_⟩
     simp [execOp, ho, resolve, hc, he, invoke, builtin, Builtin.len_, h0, run_underlying hu, goInt]
   · cases h
     obtain ⟨b, c', hk, e1, _⟩ := hv
     subst e1
     refine ⟨_, rfl, fun w => ?_⟩
     simp [execOp, ho, resolve, hc, he, invoke, builtin, Builtin.len_, h0, run_underlying hu, goInt]
   · cases h
 · cases h
theorem gives_max (hr : AR E A n a) {o : Oper} {c : Call} {xs : List AV} {r : AV} (ho : o.op = .call c) (hc : c.callee = .builtin .max) (hx : allSome (evA A) c.args.toList = some xs)
  (h : foldMM (fun a b => if a < b then b else a) xs = some r) : Gives P E a o r := by
 obtain ⟨vs, hv, he⟩ := argsN hr hx
 unfold foldMM at h
 split at h
 · rename_i k i l
   cases vs with
   | nil => exact hv.elim
   | cons v vs =>
    have e1 : v = .int k i := hv.1
    subst e1
    obtain ⟨v, hvv, hrun⟩ := fold_max (E := E) (P := P) l vs k i r hv.2 h
    exact ⟨v, hvv, fun w => by simp [execOp, ho, resolve, hc, he, invoke, builtin, Builtin.max_, hrun]⟩
 · cases h

theorem gives_min (hr : AR E A n a) {o : Oper} {c : Call} {xs : List AV} {r : AV} (ho : o.op = .call c) (hc : c.callee = .builtin .min) (hx : allSome (evA A) c.args.toList = some xs)
  (h : foldMM (fun a b => if b < a then b else a) xs = some r) : Gives P E a o r := by
 obtain ⟨vs, hv, he⟩ := argsN hr hx
 unfold foldMM at h
 split at h
 · rename_i k i l
   cases vs with
   | nil => exact hv.elim
   | cons v vs =>
    have e1 : v = .int k i := hv.1
    subst e1
    obtain ⟨v, hvv, hrun⟩ := fold_min (E := E) (P := P) l vs k i r hv.2 h
    exact ⟨v, hvv, fun w => by simp [execOp, ho, resolve, hc, he, invoke, builtin, Builtin.min_, hrun]⟩
 · cases h
/-! ### Slices -/
/-- An operand that may be missing. -/
def OptOk (E : List Ent) (x : Option AV) (v : Option Value) : Prop := (x = none ∧ v = none) ∨ ∃ p u, x = some p ∧ v = some u ∧ VV E p u
theorem opt_ok (hr : AR E A n a) {x : Option Operand} (h : x.map (evA A) ≠ some none) : OptOk E (x.map (evA A)).join (x.map a.eval) := by
 cases x with
 | none => exact .inl ⟨rfl, rfl⟩
 | some x =>
  cases hx : evA A x with
  | none => simp [hx] at h
  | some p => exact .inr ⟨p, a.eval x, by simp [hx], rfl, evA_ok hr x p hx⟩
theorem bnd_ok {d i : Nat} {x : Option AV} {v : Option Value} (h : bnd d x = some i) (hv : OptOk E x v) : (v = none ∧ i = d) ∨ ∃ k, v = some (.int k (i : Nat)) := by
 rcases hv with ⟨rfl, rfl⟩ | ⟨p, u, rfl, rfl, hu⟩
 · cases h
   exact .inl ⟨rfl, rfl⟩
 · unfold bnd at h
   cases hp : intOf p with
   | none => simp [hp] at h
   | some j =>
    simp only [hp, Option.bind_some] at h
    split at h
    · rename_i h0
      cases h
      obtain ⟨k, hk⟩ := intOf_ok hp hu
      refine .inr ⟨k, ?_⟩
      rw [hk]
      congr 2
      omega
    · cases h
theorem run_bound {k : IntKind} {i y : Nat} (h : i ≤ y) (code : BoundsCode) (w : World) : (Instr.sliceBound (.int k (i : Nat)) y code).run P w = .ok i w := by
 have h1 : (0 : Int) ≤ (i : Int) ∧ (i : Int) ≤ (y : Int) := by omega
 simp [Instr.sliceBound, asIntOf, h1, h]
theorem run_bounds {f : Bool} {len cap i j : Nat} {lo hi : Option Value} (hlo : (lo = none ∧ i = 0) ∨ ∃ k, lo = some (.int k (i : Nat))) (hhi : (hi = none ∧ j = len) ∨ ∃ k, hi = some (.int k (j : Nat)))
  (h1 : i ≤ j) (h2 : j ≤ cap) (w : World) : (Instr.sliceBounds f len cap lo hi none).run P w = .ok (i, j, cap) w := by
 rcases hlo with ⟨rfl, rfl⟩ | ⟨k, rfl⟩ <;> rcases hhi with ⟨rfl, rfl⟩ | ⟨k', rfl⟩
 · simp [Instr.sliceBounds]
 · simp [Instr.sliceBounds, run_bound h2]
 · simp [Instr.sliceBounds, run_bound h1]
 · simp [Instr.sliceBounds, run_bound h1, run_bound h2]
theorem bytes_extract (l : List Nat) (i j : Nat) : (bytes l).extract i j = bytes ((l.drop i).take (j - i)) := by
 apply ByteArray.ext
 simp [bytes, List.extract_eq_take_drop]
theorem gives_slice (hr : AR E A n a) {o : Oper} {t : TypeId} {x : Operand} {lo hi mx : Option Operand} {p r : AV} (ho : o.op = .slice t x lo hi mx) (hx : evA A x = some p)
  (hlo : lo.map (evA A) ≠ some none) (hhi : hi.map (evA A) ≠ some none) (hmx : mx.map (evA A) ≠ some none)
  (h : evSlice P t p (lo.map (evA A)).join (hi.map (evA A)).join (mx.map (evA A)).join = some r) : Gives P E a o r := by
 have h1 := evA_ok hr x p hx
 have o1 := opt_ok hr hlo
 have o2 := opt_ok hr hhi
 have o3 := opt_ok hr hmx
 generalize (lo.map (evA A)).join = lo' at h o1
 generalize (hi.map (evA A)).join = hi' at h o2
 generalize (mx.map (evA A)).join = mx' at h o3
 have hm : mx' = none → mx.map a.eval = none := by
  intro e
  rcases o3 with ⟨_, h⟩ | ⟨q, u, h, _⟩
  · exact h
  · rw [e] at h; cases h
 unfold evSlice at h
 split at h
 · rename_i l hu
   have hm := hm rfl
   obtain ⟨he, hb⟩ := VV.str h1
   split at h
   · rename_i i j hi' hj
     split at h
     · rename_i hij
       cases h
       have b1 := bnd_ok hi' o1
       have b2 := bnd_ok hj o2
       refine ⟨.string (bytes ((l.drop i).take (j - i))), ⟨rfl, fun c hc => hb c (List.mem_of_mem_drop (List.mem_of_mem_take hc))⟩, fun w => ?_⟩
       rw [← bytes_size l] at b2
       have hr1 := run_bounds (P := P) (f := false) (cap := (bytes l).size) b1 b2 hij.1 (by rw [bytes_size]; exact hij.2) w
       simp only [execOp, ho, he, hm, Instr.sliceAt, Instr.slice, Sem.run_bind, run_underlying hu, Result.andThen_ok, Option.isSome_none, Bool.false_eq_true, if_false, hr1, Sem.run_pure, bytes_extract]
     · cases h
   · cases h
 · rename_i e hu
   have hm := hm rfl
   have he : a.eval x = .slice none 0 0 := h1
   split at h
   · rename_i z hz hi' hj
     cases h
     have b1 := bnd_ok hi' o1
     have b2 := bnd_ok hj o2
     refine ⟨.slice none 0 0, rfl, fun w => ?_⟩
     have hr1 := run_bounds (P := P) (f := true) (cap := 0) b1 b2 (Nat.le_refl _) (Nat.le_refl _) w
     simp only [execOp, ho, he, hm, Instr.sliceAt, Instr.slice, Sem.run_bind, run_underlying hu, Result.andThen_ok, hr1, Sem.run_pure, run_size hz]
     rfl
   · cases h
 · rename_i e k q m c hu
   have hm := hm rfl
   obtain ⟨b, cc, hk, he, hle⟩ := h1
   split at h
   · rename_i z i j m' hz hi' hj
     split at h
     · rename_i hij
       cases h
       have b1 := bnd_ok hi' o1
       have b2 := bnd_ok hj o2
       obtain ⟨g1, g2, g3⟩ := hij
       refine ⟨.slice (some ⟨b, q + i * z, none⟩) (j - i) (m' - i), ⟨b, cc, hk, rfl, by simp only [capOf]; omega⟩, fun w => ?_⟩
       have hr1 := run_bounds (P := P) (f := true) (cap := m') b1 b2 g1 g2 w
       have hne : ¬ (m' = i) := by omega
       simp only [execOp, ho, he, hm, capOf, Instr.sliceAt, Instr.slice, Sem.run_bind, run_underlying hu, Result.andThen_ok, hr1, Sem.run_pure, run_size hz, if_neg hne, Option.map_some, Addr.add_lit]
     · cases h
   · rename_i z i j j0 hz hi' hj
     have b1 := bnd_ok hi' o1
     have b2 := bnd_ok hj o2
     have hle2 : m ≤ cc - j0 := hle
     split at h
     · rename_i hij
       cases h
       obtain ⟨g1, g2, g3⟩ := hij
       refine ⟨.slice (some ⟨b, q + i * z, none⟩) (j - i) (cc - j0 - i), ⟨b, cc, hk, by simp only [capOf]; congr 1; omega, by simp only [capOf]; omega⟩, fun w => ?_⟩
       have hr1 := run_bounds (P := P) (f := true) (cap := cc - j0) b1 b2 g1 (by omega) w
       have hne : ¬ (cc - j0 = i) := by omega
       simp only [execOp, ho, he, hm, capOf, Instr.sliceAt, Instr.slice, Sem.run_bind, run_underlying hu, Result.andThen_ok, hr1, Sem.run_pure, run_size hz, if_neg hne, Option.map_some, Addr.add_lit]
     · split at h
       · rename_i hij
         cases h
         obtain ⟨e1, e2⟩ := hij
         subst e2
         subst e1
         refine ⟨.slice (some (if cc - j0 = i then ⟨b, q, none⟩ else ⟨b, q + i * z, none⟩)) 0 (cc - j0 - i), ⟨b, cc, hk, rfl⟩, fun w => ?_⟩
         have hr1 := run_bounds (P := P) (f := true) (cap := cc - j0) b1 b2 (Nat.le_refl _) hle2 w
         simp only [execOp, ho, he, hm, capOf, Instr.sliceAt, Instr.slice, Sem.run_bind, run_underlying hu, Result.andThen_ok, hr1, Sem.run_pure, run_size hz, Option.map_some, Addr.add_lit, Nat.sub_self]
         by_cases e : cc - j0 = i
         · simp only [if_pos e]
         · simp only [if_neg e]
       · cases h
   · cases h
 · cases h

/-! ### Building -/
theorem over_ok {l cs m : List A1} {o : Nat} (h : over l o cs = some m) : o + cs.length ≤ l.length ∧ m = l.take o ++ cs ++ l.drop (o + cs.length) := by
 unfold over at h
 split at h
 · cases h
   exact ⟨by assumption, rfl⟩
 · cases h
theorem over_all {l cs m : List A1} {o : Nat} {vs us : List Value} (h : over l o cs = some m) (hl : All2 (V1 E) l vs) (hc : All2 (V1 E) cs us) : All2 (V1 E) m (vs.take o ++ us ++ vs.drop (o + us.length)) := by
 obtain ⟨_, rfl⟩ := over_ok h
 rw [hc.length]
 exact ((hl.take o).append hc).append (hl.drop _)
theorem set_over (o : Nat) (us : List Value) (cs : Array Value) (h : o + us.length ≤ cs.size) : ((us.zipIdx 0).foldl (fun cs (x : Value × Nat) => cs.setIfInBounds (o + x.2) x.1) cs).toList = cs.toList.take o ++ us ++ cs.toList.drop (o + us.length) := by
 obtain ⟨h1, h2⟩ := Great.foldl_set o us 0 cs
 apply List.ext_getElem?
 intro k
 rw [Array.getElem?_toList, h2 k]
 simp only [Nat.add_zero]
 have hsz : cs.toList.length = cs.size := Array.length_toList
 by_cases hk : o ≤ k ∧ k < o + us.length ∧ k < cs.size
 · rw [if_pos hk, List.append_assoc, List.getElem?_append_right (by simp; omega), List.getElem?_append_left (by simp; omega)]
   congr 1
   simp
   omega
 · rw [if_neg hk]
   by_cases h3 : k < o
   · rw [List.append_assoc, List.getElem?_append_left (by simp; omega), List.getElem?_take, if_pos h3, Array.getElem?_toList]
   · rw [List.getElem?_append_right (by simp; omega), List.getElem?_drop, Array.getElem?_toList]
     congr 1
     simp
     omega
def PartOk (E : List Ent) (p : Nat × A2) (v : Nat × Value) : Prop := p.1 = v.1 ∧ V2 E p.2 v.2
theorem fill_ok {place : Nat → Option (Nat × Nat)} : ∀ (ps : List (Nat × A2)) (vs : List (Nat × Value)) (l m : List A1) (cs : Array Value), All2 (PartOk E) ps vs → All2 (V1 E) l cs.toList → fillF place l ps = some m →
   ∃ r, Instr.fill place cs vs = some r ∧ All2 (V1 E) m r.toList
 | [], [], l, m, cs, _, hl, h => by
  cases h
  exact ⟨cs, rfl, hl⟩
 | (i, x) :: ps, (j, v) :: vs, l, m, cs, hp, hl, h => by
  have e1 : i = j := hp.1.1
  subst e1
  have hx : V2 E x v := hp.1.2
  have hc := V2.cells hx
  unfold fillF at h
  cases hpl : place i with
  | none => simp [hpl] at h
  | some q =>
   obtain ⟨o, k⟩ := q
   simp only [hpl] at h
   split at h
   · rename_i hk
     split at h
     · rename_i l' hl'
       obtain ⟨hle, _⟩ := over_ok hl'
       have hsz : v.cells.size = x.cells.length := by rw [← Array.length_toList, hc.length]
       have hcs : cs.size = l.length := by rw [← Array.length_toList, hl.length]
       have h3 := over_all hl' hl hc
       rw [← set_over o v.cells.toList cs (by rw [Array.length_toList]; omega)] at h3
       obtain ⟨r, hr, hr2⟩ := fill_ok ps vs l' m _ hp.2 h3 h
       refine ⟨r, ?_, hr2⟩
       have hno : ¬ (v.cells.size ≠ k ∨ o + v.cells.size > cs.size) := by
        rintro (h4 | h4)
        · exact h4 (by omega)
        · omega
       have e2 : (v.cells.zipIdx.foldl (fun cs (x : Value × Nat) => cs.setIfInBounds (o + x.2) x.1) cs) = ((v.cells.toList.zipIdx 0).foldl (fun cs (x : Value × Nat) => cs.setIfInBounds (o + x.2) x.1) cs) := by
        rw [← Array.foldl_toList, Array.toList_zipIdx]
       unfold Instr.fill
       simp only [hpl]
       rw [if_neg (by simpa using hno), ← hr, ← e2]
     · cases h
   · cases h
theorem parts_ok (hr : AR E A n a) {ps : Array (Nat × Operand)} {qs : List (Nat × AV)} {us : List (Nat × A2)} (h : allSome (fun p => (evA A p.2).map fun v => (p.1, v)) ps.toList = some qs) (h2 : allSome (fun p => (asV2 p.2).map fun x => (p.1, x)) qs = some us) :
  All2 (PartOk E) us (ps.map fun (i, x) => (i, a.eval x)).toList := by
 rw [Array.toList_map]
 generalize ps.toList = l at h
 induction l generalizing qs us with
 | nil =>
  cases h
  cases h2
  trivial
 | cons p l ih =>
  unfold allSome at h
  cases h3 : evA A p.2 with
  | none => simp [h3] at h
  | some v =>
   cases h4 : allSome (fun p : Nat × Operand => (evA A p.2).map fun v => (p.1, v)) l with
   | none => simp [h3, h4] at h
   | some qs' =>
    simp only [h3, h4, Option.map_some, Option.some.injEq] at h
    subst h
    unfold allSome at h2
    cases h5 : asV2 v with
    | none => simp [h5] at h2
    | some x =>
     cases h6 : allSome (fun p : Nat × AV => (asV2 p.2).map fun x => (p.1, x)) qs' with
     | none => simp [h5, h6] at h2
     | some us' =>
      simp only [h5, h6, Option.map_some, Option.some.injEq] at h2
      subst h2
      refine ⟨⟨rfl, ?_⟩, ih h6 h4⟩
      have h7 := evA_ok hr p.2 v h3
      cases v with
      | v y => cases h5; exact h7
      | tup l => cases h5
theorem places_ok {fs : Array Field} {w : World} : ∀ (l : List Field), (∀ f ∈ l, (sizeT P f.type).isSome) →
   ((l.mapM fun f => do pure (f.offset, ← sizeOf f.type) : Sem (List (Nat × Nat)))).run P w = .ok (l.map fun f => (f.offset, (sizeT P f.type).getD 0)) w
 | [], _ => by simp
 | f :: l, h => by
  have h1 := h f List.mem_cons_self
  cases h2 : sizeT P f.type with
  | none => rw [h2] at h1; cases h1
  | some z =>
   have ih := places_ok (fs := fs) (w := w) l (fun f hf => h f (List.mem_cons_of_mem _ hf))
   simp only [List.mapM_cons, Sem.run_bind, run_size h2, Result.andThen_ok, Sem.run_pure, ih, List.map_cons, h2, Option.getD_some]

theorem gives_build (hr : AR E A n a) {o : Oper} {t : TypeId} {ps : Array (Nat × Operand)} {qs : List (Nat × AV)} {r : AV} (ho : o.op = .build t ps) (hq : allSome (fun p => (evA A p.2).map fun v => (p.1, v)) ps.toList = some qs) (h : evBuild P t qs = some r) : Gives P E a o r := by
 unfold evBuild at h
 split at h
 · rename_i z fs us hz hu hus
   obtain ⟨zv, hzv, hzr⟩ := zero_ok (E := E) hz
   have hp := parts_ok hr hq hus
   split at h
   · rename_i hall
     cases hf : fillF (fun i => (fs[i]?).bind fun f => (sizeT P f.type).map fun n => (f.offset, n)) z.cells us with
     | none => simp [hf] at h
     | some l =>
      simp only [hf, Option.map_some, Option.some.injEq] at h
      subst h
      obtain ⟨cs, hcs, hl⟩ := fill_ok us _ z.cells l zv.cells hp hzv.cells hf
      refine ⟨.agg cs, ⟨cs.toList, hl, rfl⟩, fun w => ?_⟩
      have hall' : ∀ f ∈ fs.toList, (sizeT P f.type).isSome := fun f hf => List.all_eq_true.1 hall f hf
      have hpl := places_ok (P := P) (fs := fs) (w := w) fs.toList hall'
      have hfun : (fun (i : Nat) => (fs[i]?).bind fun (f : Field) => (sizeT P f.type).map fun n => (f.offset, n)) = fun (i : Nat) => ((fs.map fun (f : Field) => (f.offset, (sizeT P f.type).getD 0))[i]? : Option (Nat × Nat)) := by
       funext i
       rw [Array.getElem?_map]
       cases hi : fs[i]? with
       | none => rfl
       | some f =>
        have h1 := hall' f (Array.mem_toList_iff.2 (Array.mem_of_getElem? hi))
        cases h2 : sizeT P f.type with
        | none => rw [h2] at h1; cases h1
        | some k => simp [h2]
      rw [hfun] at hcs
      have hmap : (fs.mapM fun f => do pure (f.offset, ← sizeOf f.type) : Sem (Array (Nat × Nat))).run P w = .ok (fs.map fun f => (f.offset, (sizeT P f.type).getD 0)) w := by
       have e2 : fs = fs.toList.toArray := by simp
       have e3 : (fs.toList.map fun f => (f.offset, (sizeT P f.type).getD 0)).toArray = fs.map fun f => (f.offset, (sizeT P f.type).getD 0) := Array.ext' (by rw [Array.toList_map])
       rw [← e3]
       conv => lhs; rw [e2]
       rw [List.mapM_toArray, Sem.run_map, hpl]
       rfl
      simp only [execOp, ho, Instr.build, Sem.run_bind, hzr, run_underlying hu, Result.andThen_ok, hmap, hcs, Sem.run_pure]
   · cases h
 · rename_i z k e us hz hu hus
   obtain ⟨zv, hzv, hzr⟩ := zero_ok (E := E) hz
   have hp := parts_ok hr hq hus
   split at h
   · rename_i m hm
     cases hf : fillF (fun i => some (i * m, m)) z.cells us with
     | none => simp [hf] at h
     | some l =>
      simp only [hf, Option.map_some, Option.some.injEq] at h
      subst h
      obtain ⟨cs, hcs, hl⟩ := fill_ok us _ z.cells l zv.cells hp hzv.cells hf
      refine ⟨.agg cs, ⟨cs.toList, hl, rfl⟩, fun w => ?_⟩
      simp only [execOp, ho, Instr.build, Sem.run_bind, hzr, run_underlying hu, Result.andThen_ok, run_size hm, hcs, Sem.run_pure]
   · cases h
 · cases h
theorem evPure_ok (hr : AR E A n a) {o : Oper} {r : AV} (h : evPure P A o = some r) : Gives P E a o r := by
 unfold evPure at h
 split at h
 · rename_i x ho
   exact gives_move hr (.inl ho) h
 · rename_i x ho
   exact gives_move hr (.inr ho) h
 · rename_i c x y ho
   split at h
   · rename_i hc
     exact gives_pick (b := true) hr ho hc h
   · rename_i hc
     exact gives_pick (b := false) hr ho hc h
   · cases h
 · rename_i t ps ho
   split at h
   · rename_i qs hq
     exact gives_build hr ho hq h
   · cases h
 · rename_i x ho
   split at h
   · rename_i k q hx
     cases h
     exact gives_nil hr ho hx (.inl ⟨_, _, rfl⟩)
   · cases h
 · rename_i op t x y c ho
   cases hx : evA A x with
   | none => simp [hx] at h
   | some p =>
    cases hy : evA A y with
    | none => simp [hx, hy] at h
    | some q =>
     simp only [hx, hy, Option.bind_some] at h
     split at h
     · split at h
       · rename_i hc
         split at h
         · rename_i hu
           cases h
           exact gives_bin_nil hr ⟨c, ho⟩ hx hy hc hu (.inl ⟨rfl, rfl⟩)
         · rename_i hu
           cases h
           exact gives_bin_nil hr ⟨c, ho⟩ hx hy hc hu (.inr ⟨rfl, rfl⟩)
         · cases h
       · cases h
     · exact gives_bin (z := true) hr ⟨c, ho⟩ hx hy h
 · rename_i op t x ho
   cases hx : evA A x with
   | none => simp [hx] at h
   | some p =>
    simp only [hx, Option.bind_some] at h
    exact gives_un hr ho hx h
 · rename_i s d x ho
   cases hx : evA A x with
   | none => simp [hx] at h
   | some p =>
    simp only [hx, Option.bind_some] at h
    exact gives_conv hr ho hx h
 · rename_i t x lo hi mx ho
   split at h
   · cases h
   · cases h
   · cases h
   · rename_i v hx h1 h2 h3
     exact gives_slice hr ho hx (by simpa using h1) (by simpa using h2) (by simpa using h3) h
   · cases h
 · rename_i s x f ho
   split at h
   · rename_i k q d ty hx hf
     split at h
     · rename_i m hs
       cases h
       exact gives_fieldAddr hr ho hx hf hs
     · cases h
   · cases h
 · rename_i t x f ho
   cases hx : evA A x with
   | none => simp [hx] at h
   | some p =>
    simp only [hx, Option.bind_some] at h
    exact gives_field hr ho hx h
 · rename_i t x i ho
   cases hx : evA A x with
   | none => simp [hx] at h
   | some p =>
    cases hi : evA A i with
    | none => simp [hx, hi] at h
    | some q =>
     simp only [hx, hi, Option.bind_some] at h
     exact gives_indexAddr hr ho hx hi h
 · rename_i t x i ho
   cases hx : evA A x with
   | none => simp [hx] at h
   | some p =>
    cases hi : evA A i with
    | none => simp [hx, hi] at h
    | some q =>
     simp only [hx, hi, Option.bind_some] at h
     exact gives_index hr ho hx hi h
 · rename_i x i ho
   split at h
   · rename_i l hx
     cases hy : l[i]? with
     | none => simp [hy] at h
     | some y =>
      simp only [hy, Option.map_some, Option.some.injEq] at h
      subst h
      exact gives_extract hr ho hx hy
   · cases h
 · rename_i c ho
   split at h
   · rename_i x t tl hc hx ht
     exact gives_len hr ho hc hx ht h
   · rename_i xs _ hc hx
     exact gives_max hr ho hc hx h
   · rename_i xs _ hc hx
     exact gives_min hr ho hc hx h
   · cases h
 · cases h
end
end Go.Ev
