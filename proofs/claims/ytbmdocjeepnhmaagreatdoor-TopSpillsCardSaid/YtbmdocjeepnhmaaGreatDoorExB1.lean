/- The reckoner is right: what reads no memory, third part. -/
import Derived.Test.YtbmdocjeepnhmaaGreatDoorEx7
import Derived.Deep.MidRow
import Derived.MapKept
import Derived.Laws.IdiomRangeMap
import Derived.Laws.StructEq
import Derived.Laws.MakeOwn
import Derived.Laws.AppendOwn
set_option linter.unusedVariables false
set_option linter.unusedSimpArgs false
set_option linter.unusedSectionVars false
namespace Go.Ev
open Go Go.RowKit
variable [Sy]
section
variable {E : List Ent} {A : Fr} {n : Nat} {a : Act} {P : Program}
theorem args1 {c : Call} {x : AV} (hr : AR E A n a) (h : allSome (evA A) c.args.toList = some [x]) : ∃ v, VV E x v ∧ c.args.map a.eval = #[v] := by
 have h1 := args_ok hr h
 have hl := h1.length
 have e : c.args.map a.eval = (c.args.toList.map a.eval).toArray := Array.ext' (by rw [Array.toList_map])
 rw [e]
 cases h2 : c.args.toList.map a.eval with
 | nil => rw [h2] at hl; cases hl
 | cons v l =>
  rw [h2] at h1
  cases l with
  | nil => exact ⟨v, h1.1, rfl⟩
  | cons _ _ => exact h1.2.elim
theorem args2 {c : Call} {x y : AV} (hr : AR E A n a) (h : allSome (evA A) c.args.toList = some [x, y]) : ∃ v u, VV E x v ∧ VV E y u ∧ c.args.map a.eval = #[v, u] := by
 have h1 := args_ok hr h
 have e : c.args.map a.eval = (c.args.toList.map a.eval).toArray := Array.ext' (by rw [Array.toList_map])
 rw [e]
 cases h2 : c.args.toList.map a.eval with
 | nil => rw [h2] at h1; exact h1.elim
 | cons v l =>
  rw [h2] at h1
  cases l with
  | nil => exact h1.2.elim
  | cons u l =>
   cases l with
   | nil => exact ⟨v, u, h1.1, h1.2.1, rfl⟩
   | cons _ _ => exact h1.2.2.elim
theorem argsN {c : Call} {l : List AV} (hr : AR E A n a) (h : allSome (evA A) c.args.toList = some l) : ∃ vs, All2 (VV E) l vs ∧ c.args.map a.eval = vs.toArray :=
 ⟨_, args_ok hr h, Array.ext' (by rw [Array.toList_map])⟩
theorem ty0 {c : Call} {t : TypeId} {l : List TypeId} (h : c.argTypes.toList = t :: l) : c.argTypes[0]? = some t := by
 rw [← Array.getElem?_toList, h]
 rfl
theorem gives_len (hr : AR E A n a) {o : Oper} {c : Call} {x r : AV} {t : TypeId} {tl : List TypeId} (ho : o.op = .call c) (hc : c.callee = .builtin .len) (hx : allSome (evA A) c.args.toList = some [x]) (ht : c.argTypes.toList = t :: tl)
  (h : evLenP P t x = some r) : Gives P E a o r := by
 obtain ⟨v, hv, he⟩ := args1 hr hx
 have h0 := ty0 ht
 unfold evLenP at h
 split at h
 · rename_i l hu
   cases h
   obtain ⟨e1, _⟩ := VV.str hv
   subst e1
   refine ⟨.int .i64 (l.length : Nat), rfl, fun w => ?_⟩
   simp [execOp, ho, resolve, hc, he, invoke, builtin, Builtin.len_, h0, run_underlying hu, goInt, bytes_size]
 · cases h
 · rename_i e y hu hne
   unfold lenIn at h
   split at h
   · cases h
     have e1 : v = .slice none 0 0 := hv
     subst e1
     refine ⟨.int .i64 0, rfl, fun w => ?_⟩
     simp [execOp, ho, resolve, hc, he, invoke, builtin, Builtin.len_, h0, run_underlying hu, goInt]
   · cases h
     obtain ⟨b, c', hk, e1, _⟩ := hv
     subst e1
     refine ⟨_, rfl, fun w => ?_⟩
     simp [execOp, ho, resolve, hc, he, invoke, builtin, Builtin.len_, h0, run_underlying hu, goInt]
   · cases h
     obtain ⟨b, c', hk, e1⟩ := hv
     subst e1
     refine ⟨.int .i64 0, rfl, fun w => ?_⟩
     simp [execOp, ho, resolve, hc, he, invoke, builtin, Builtin.len_, h0, run_underlying hu, goInt]
   · cases h
 · cases h
theorem gives_max (hr : AR E A n a) {o : Oper} {c : Call} {xs : List AV} {r : AV} (ho : o.op = .call c) (hc : c.callee = .builtin .max) (hx : allSome (evA A) c.args.toList = some xs)
  (h : foldMM (fun a b => if a < b then b else a) xs = some r) : Gives P E a o r := by
 obtain ⟨vs, hv, he⟩ := argsN hr hx
 unfold foldMM at h
 split at h
 · rename_i k i l
   cases vs with
   | nil => exact hv.elim
   | cons v vs =>
    have e1 : v = .int k i := hv.1
    subst e1
    obtain ⟨v, hvv, hrun⟩ := fold_max (E := E) (P := P) l vs k i r hv.2 h
    exact ⟨v, hvv, fun w => by simp [execOp, ho, resolve, hc, he, invoke, builtin, Builtin.max_, hrun]⟩
 · cases h

theorem gives_min (hr : AR E A n a) {o : Oper} {c : Call} {xs : List AV} {r : AV} (ho : o.op = .call c) (hc : c.callee = .builtin .min) (hx : allSome (evA A) c.args.toList = some xs)
  (h : foldMM (fun a b => if b < a then b else a) xs = some r) : Gives P E a o r := by
 obtain ⟨vs, hv, he⟩ := argsN hr hx
 unfold foldMM at h
 split at h
 · rename_i k i l
   cases vs with
   | nil => exact hv.elim
   | cons v vs =>
    have e1 : v = .int k i := hv.1
    subst e1
    obtain ⟨v, hvv, hrun⟩ := fold_min (E := E) (P := P) l vs k i r hv.2 h
    exact ⟨v, hvv, fun w => by simp [execOp, ho, resolve, hc, he, invoke, builtin, Builtin.min_, hrun]⟩
 · cases h
/-! ### Slices -/
/-- An operand that may be missing. -/
def OptOk (E : List Ent) (x : Option AV) (v : Option Value) : Prop := (x = none ∧ v = none) ∨ ∃ p u, x = some p ∧ v = some u ∧ VV E p u
theorem opt_ok (hr : AR E A n a) {x : Option Operand} (h : x.map (evA A) ≠ some none) : OptOk E (x.map (evA A)).join (x.map a.eval) := by
 cases x with
 | none => exact .inl ⟨rfl, rfl⟩
 | some x =>
  cases hx : evA A x with
  | none => simp [hx] at h
  | some p => exact .inr ⟨p, a.eval x, by simp [hx], rfl, evA_ok hr x p hx⟩
theorem bnd_ok {d i : Nat} {x : Option AV} {v : Option Value} (h : bnd d x = some i) (hv : OptOk E x v) : (v = none ∧ i = d) ∨ ∃ k, v = some (.int k (i : Nat)) := by
 rcases hv with ⟨rfl, rfl⟩ | ⟨p, u, rfl, rfl, hu⟩
 · cases h
   exact .inl ⟨rfl, rfl⟩
 · unfold bnd at h
   cases hp : intOf p with
   | none => simp [hp] at h
   | some j =>
    simp only [hp, Option.bind_some] at h
    split at h
    · rename_i h0
      cases h
      obtain ⟨k, hk⟩ := intOf_ok hp hu
      refine .inr ⟨k, ?_⟩
      rw [hk]
      congr 2
      omega
    · cases h
theorem run_bound {k : IntKind} {i y : Nat} (h : i ≤ y) (code : BoundsCode) (w : World) : (Instr.sliceBound (.int k (i : Nat)) y code).run P w = .ok i w := by
 have h1 : (0 : Int) ≤ (i : Int) ∧ (i : Int) ≤ (y : Int) := by omega
 simp [Instr.sliceBound, asIntOf, h1, h]
theorem run_bounds {f : Bool} {len cap i j : Nat} {lo hi : Option Value} (hlo : (lo = none ∧ i = 0) ∨ ∃ k, lo = some (.int k (i : Nat))) (hhi : (hi = none ∧ j = len) ∨ ∃ k, hi = some (.int k (j : Nat)))
  (h1 : i ≤ j) (h2 : j ≤ cap) (w : World) : (Instr.sliceBounds f len cap lo hi none).run P w = .ok (i, j, cap) w := by
 rcases hlo with ⟨rfl, rfl⟩ | ⟨k, rfl⟩ <;> rcases hhi with ⟨rfl, rfl⟩ | ⟨k', rfl⟩
 · simp [Instr.sliceBounds]
 · simp [Instr.sliceBounds, run_bound h2]
 · simp [Instr.sliceBounds, run_bound h1]
 · simp [Instr.sliceBounds, run_bound h1, run_bound h2]
theorem run_bounds3 {len cap i j m : Nat} {lo hi mx : Option Value} (hlo : (lo = none ∧ i = 0) ∨ ∃ k, lo = some (.int k (i : Nat))) (hhi : ∃ k, hi = some (.int k (j : Nat))) (hmx : ∃ k, mx = some (.int k (m : Nat)))
  (h1 : i ≤ j) (h2 : j ≤ m) (h3 : m ≤ cap) (w : World) : (Instr.sliceBounds true len cap lo hi mx).run P w = .ok (i, j, m) w := by
 obtain ⟨k', rfl⟩ := hhi
 obtain ⟨k2, rfl⟩ := hmx
 rcases hlo with ⟨rfl, rfl⟩ | ⟨k, rfl⟩
 · simp [Instr.sliceBounds, run_bound h2, run_bound h3]
 · simp [Instr.sliceBounds, run_bound h1, run_bound h2, run_bound h3]
theorem bytes_extract (l : List Nat) (i j : Nat) : (bytes l).extract i j = bytes ((l.drop i).take (j - i)) := by
 apply ByteArray.ext
 simp [bytes, List.extract_eq_take_drop]
theorem gives_slice (hr : AR E A n a) {o : Oper} {t : TypeId} {x : Operand} {lo hi mx : Option Operand} {p r : AV} (ho : o.op = .slice t x lo hi mx) (hx : evA A x = some p)
  (hlo : lo.map (evA A) ≠ some none) (hhi : hi.map (evA A) ≠ some none) (hmx : mx.map (evA A) ≠ some none)
  (h : evSlice P t p (lo.map (evA A)).join (hi.map (evA A)).join (mx.map (evA A)).join = some r) : Gives P E a o r := by
 have h1 := evA_ok hr x p hx
 have o1 := opt_ok hr hlo
 have o2 := opt_ok hr hhi
 have o3 := opt_ok hr hmx
 generalize (lo.map (evA A)).join = lo' at h o1
 generalize (hi.map (evA A)).join = hi' at h o2
 generalize (mx.map (evA A)).join = mx' at h o3
 have hm : mx' = none → mx.map a.eval = none := by
  intro e
  rcases o3 with ⟨_, h⟩ | ⟨q, u, h, _⟩
  · exact h
  · rw [e] at h; cases h
 unfold evSlice at h
 split at h
 · rename_i l hu
   have hm := hm rfl
   obtain ⟨he, hb⟩ := VV.str h1
   split at h
   · rename_i i j hi' hj
     split at h
     · rename_i hij
       cases h
       have b1 := bnd_ok hi' o1
       have b2 := bnd_ok hj o2
       refine ⟨.string (bytes ((l.drop i).take (j - i))), ⟨rfl, fun c hc => hb c (List.mem_of_mem_drop (List.mem_of_mem_take hc))⟩, fun w => ?_⟩
       rw [← bytes_size l] at b2
       have hr1 := run_bounds (P := P) (f := false) (cap := (bytes l).size) b1 b2 hij.1 (by rw [bytes_size]; exact hij.2) w
       simp only [execOp, ho, he, hm, Instr.sliceAt, Instr.slice, Sem.run_bind, run_underlying hu, Result.andThen_ok, Option.isSome_none, Bool.false_eq_true, if_false, hr1, Sem.run_pure, bytes_extract]
     · cases h
   · cases h
 · rename_i e hu
   have hm := hm rfl
   have he : a.eval x = .slice none 0 0 := h1
   split at h
   · rename_i z hz hi' hj
     cases h
     have b1 := bnd_ok hi' o1
     have b2 := bnd_ok hj o2
     refine ⟨.slice none 0 0, rfl, fun w => ?_⟩
     have hr1 := run_bounds (P := P) (f := true) (cap := 0) b1 b2 (Nat.le_refl _) (Nat.le_refl _) w
     simp only [execOp, ho, he, hm, Instr.sliceAt, Instr.slice, Sem.run_bind, run_underlying hu, Result.andThen_ok, hr1, Sem.run_pure, run_size hz]
     rfl
   · cases h
 · rename_i e k q m c hu
   have hm := hm rfl
   obtain ⟨b, cc, hk, he, hle⟩ := h1
   split at h
   · rename_i z i j m' hz hi' hj
     split at h
     · rename_i hij
       cases h
       have b1 := bnd_ok hi' o1
       have b2 := bnd_ok hj o2
       obtain ⟨g1, g2, g3⟩ := hij
       refine ⟨.slice (some ⟨b, q + i * z, none⟩) (j - i) (m' - i), ⟨b, cc, hk, rfl, by simp only [capOf]; omega⟩, fun w => ?_⟩
       have hr1 := run_bounds (P := P) (f := true) (cap := m') b1 b2 g1 g2 w
       have hne : ¬ (m' = i) := by omega
       simp only [execOp, ho, he, hm, capOf, Instr.sliceAt, Instr.slice, Sem.run_bind, run_underlying hu, Result.andThen_ok, hr1, Sem.run_pure, run_size hz, if_neg hne, Option.map_some, Addr.add_lit]
     · cases h
   · rename_i z i j j0 hz hi' hj
     have b1 := bnd_ok hi' o1
     have b2 := bnd_ok hj o2
     have hle2 : m ≤ cc - j0 := hle
     split at h
     · rename_i hij
       cases h
       obtain ⟨g1, g2, g3⟩ := hij
       refine ⟨.slice (some ⟨b, q + i * z, none⟩) (j - i) (cc - j0 - i), ⟨b, cc, hk, by simp only [capOf]; congr 1; omega, by simp only [capOf]; omega⟩, fun w => ?_⟩
       have hr1 := run_bounds (P := P) (f := true) (cap := cc - j0) b1 b2 g1 (by omega) w
       have hne : ¬ (cc - j0 = i) := by omega
       simp only [execOp, ho, he, hm, capOf, Instr.sliceAt, Instr.slice, Sem.run_bind, run_underlying hu, Result.andThen_ok, hr1, Sem.run_pure, run_size hz, if_neg hne, Option.map_some, Addr.add_lit]
     · split at h
       · rename_i hij
         cases h
         obtain ⟨e1, e2⟩ := hij
         subst e2
         subst e1
         refine ⟨.slice (some (if cc - j0 = i then ⟨b, q, none⟩ else ⟨b, q + i * z, none⟩)) 0 (cc - j0 - i), ⟨b, cc, hk, rfl⟩, fun w => ?_⟩
         have hr1 := run_bounds (P := P) (f := true) (cap := cc - j0) b1 b2 (Nat.le_refl _) hle2 w
         simp only [execOp, ho, he, hm, capOf, Instr.sliceAt, Instr.slice, Sem.run_bind, run_underlying hu, Result.andThen_ok, hr1, Sem.run_pure, run_size hz, Option.map_some, Addr.add_lit, Nat.sub_self]
         by_cases e : cc - j0 = i
         · simp only [if_pos e]
         · simp only [if_neg e]
       · cases h
   · cases h
 · rename_i e k q m c mxv hu
   obtain ⟨b, cc, hk, he, hle⟩ := h1
   split at h
   · rename_i z i hv m' hz hi' hm'
     split at h
     · rename_i j hj
       split at h
       · rename_i hij
         cases h
         obtain ⟨g1, g2, g3, g4⟩ := hij
         have b1 := bnd_ok hi' o1
         have b2 : ∃ k, hi.map a.eval = some (.int k (j : Nat)) := by
          rcases bnd_ok hj o2 with ⟨e1, _⟩ | e1
          · rcases o2 with ⟨e2, _⟩ | ⟨_, _, _, e2, _⟩
            · cases e2
            · rw [e2] at e1; cases e1
          · exact e1
         have b3 : ∃ k, mx.map a.eval = some (.int k (m' : Nat)) := by
          rcases bnd_ok hm' o3 with ⟨e1, _⟩ | e1
          · rcases o3 with ⟨e2, _⟩ | ⟨_, _, _, e2, _⟩
            · cases e2
            · rw [e2] at e1; cases e1
          · exact e1
         refine ⟨.slice (some ⟨b, q + i * z, none⟩) (j - i) (m' - i), ⟨b, cc, hk, rfl, by simp only [capOf]; omega⟩, fun w => ?_⟩
         have hr1 := run_bounds3 (P := P) (len := m) (cap := capOf cc c) b1 b2 b3 g1 g2 (by omega) w
         have hne : ¬ (m' = i) := by omega
         simp only [execOp, ho, he, Instr.sliceAt, Instr.slice, Sem.run_bind, run_underlying hu, Result.andThen_ok, hr1, Sem.run_pure, run_size hz, if_neg hne, Option.map_some, Addr.add_lit]
       · cases h
     · cases h
   · cases h
 · cases h

/-! ### Building -/
theorem over_ok {l cs m : List A1} {o : Nat} (h : over l o cs = some m) : o + cs.length ≤ l.length ∧ m = l.take o ++ cs ++ l.drop (o + cs.length) := by
 unfold over at h
 split at h
 · cases h
   exact ⟨by assumption, rfl⟩
 · cases h
theorem over_all {l cs m : List A1} {o : Nat} {vs us : List Value} (h : over l o cs = some m) (hl : All2 (V1 E) l vs) (hc : All2 (V1 E) cs us) : All2 (V1 E) m (vs.take o ++ us ++ vs.drop (o + us.length)) := by
 obtain ⟨_, rfl⟩ := over_ok h
 rw [hc.length]
 exact ((hl.take o).append hc).append (hl.drop _)
theorem set_over (o : Nat) (us : List Value) (cs : Array Value) (h : o + us.length ≤ cs.size) : ((us.zipIdx 0).foldl (fun cs (x : Value × Nat) => cs.setIfInBounds (o + x.2) x.1) cs).toList = cs.toList.take o ++ us ++ cs.toList.drop (o + us.length) := by
 obtain ⟨h1, h2⟩ := Great.foldl_set o us 0 cs
 apply List.ext_getElem?
 intro k
 rw [Array.getElem?_toList, h2 k]
 simp only [Nat.add_zero]
 have hsz : cs.toList.length = cs.size := Array.length_toList
 by_cases hk : o ≤ k ∧ k < o + us.length ∧ k < cs.size
 · rw [if_pos hk, List.append_assoc, List.getElem?_append_right (by simp; omega), List.getElem?_append_left (by simp; omega)]
   congr 1
   simp
   omega
 · rw [if_neg hk]
   by_cases h3 : k < o
   · rw [List.append_assoc, List.getElem?_append_left (by simp; omega), List.getElem?_take, if_pos h3, Array.getElem?_toList]
   · rw [List.getElem?_append_right (by simp; omega), List.getElem?_drop, Array.getElem?_toList]
     congr 1
     simp
     omega
def PartOk (E : List Ent) (p : Nat × A2) (v : Nat × Value) : Prop := p.1 = v.1 ∧ V2 E p.2 v.2
theorem fill_ok {place : Nat → Option (Nat × Nat)} : ∀ (ps : List (Nat × A2)) (vs : List (Nat × Value)) (l m : List A1) (cs : Array Value), All2 (PartOk E) ps vs → All2 (V1 E) l cs.toList → fillF place l ps = some m →
   ∃ r, Instr.fill place cs vs = some r ∧ All2 (V1 E) m r.toList
 | [], [], l, m, cs, _, hl, h => by
  cases h
  exact ⟨cs, rfl, hl⟩
 | (i, x) :: ps, (j, v) :: vs, l, m, cs, hp, hl, h => by
  have e1 : i = j := hp.1.1
  subst e1
  have hx : V2 E x v := hp.1.2
  have hc := V2.cells hx
  unfold fillF at h
  cases hpl : place i with
  | none => simp [hpl] at h
  | some q =>
   obtain ⟨o, k⟩ := q
   simp only [hpl] at h
   split at h
   · rename_i hk
     split at h
     · rename_i l' hl'
       obtain ⟨hle, _⟩ := over_ok hl'
       have hsz : v.cells.size = x.cells.length := by rw [← Array.length_toList, hc.length]
       have hcs : cs.size = l.length := by rw [← Array.length_toList, hl.length]
       have h3 := over_all hl' hl hc
       rw [← set_over o v.cells.toList cs (by rw [Array.length_toList]; omega)] at h3
       obtain ⟨r, hr, hr2⟩ := fill_ok ps vs l' m _ hp.2 h3 h
       refine ⟨r, ?_, hr2⟩
       have hno : ¬ (v.cells.size ≠ k ∨ o + v.cells.size > cs.size) := by
        rintro (h4 | h4)
        · exact h4 (by omega)
        · omega
       have e2 : (v.cells.zipIdx.foldl (fun cs (x : Value × Nat) => cs.setIfInBounds (o + x.2) x.1) cs) = ((v.cells.toList.zipIdx 0).foldl (fun cs (x : Value × Nat) => cs.setIfInBounds (o + x.2) x.1) cs) := by
        rw [← Array.foldl_toList, Array.toList_zipIdx]
       unfold Instr.fill
       simp only [hpl]
       rw [if_neg (by simpa using hno), ← hr, ← e2]
     · cases h
   · cases h
theorem parts_ok (hr : AR E A n a) {ps : Array (Nat × Operand)} {qs : List (Nat × AV)} {us : List (Nat × A2)} (h : allSome (fun p => (evA A p.2).map fun v => (p.1, v)) ps.toList = some qs) (h2 : allSome (fun p => (asV2 p.2).map fun x => (p.1, x)) qs = some us) :
  All2 (PartOk E) us (ps.map fun (i, x) => (i, a.eval x)).toList := by
 rw [Array.toList_map]
 generalize ps.toList = l at h
 induction l generalizing qs us with
 | nil =>
  cases h
  cases h2
  trivial
 | cons p l ih =>
  unfold allSome at h
  cases h3 : evA A p.2 with
  | none => simp [h3] at h
  | some v =>
   cases h4 : allSome (fun p : Nat × Operand => (evA A p.2).map fun v => (p.1, v)) l with
   | none => simp [h3, h4] at h
   | some qs' =>
    simp only [h3, h4, Option.map_some, Option.some.injEq] at h
    subst h
    unfold allSome at h2
    cases h5 : asV2 v with
    | none => simp [h5] at h2
    | some x =>
     cases h6 : allSome (fun p : Nat × AV => (asV2 p.2).map fun x => (p.1, x)) qs' with
     | none => simp [h5, h6] at h2
     | some us' =>
      simp only [h5, h6, Option.map_some, Option.some.injEq] at h2
      subst h2
      refine ⟨⟨rfl, ?_⟩, ih h6 h4⟩
      have h7 := evA_ok hr p.2 v h3
      cases v with
      | v y => cases h5; exact h7
      | tup l => cases h5
theorem places_ok {fs : Array Field} {w : World} : ∀ (l : List Field), (∀ f ∈ l, (sizeT P f.type).isSome) →
   ((l.mapM fun f => do pure (f.offset, ← sizeOf f.type) : Sem (List (Nat × Nat)))).run P w = .ok (l.map fun f => (f.offset, (sizeT P f.type).getD 0)) w
 | [], _ => by simp
 | f :: l, h => by
  have h1 := h f List.mem_cons_self
  cases h2 : sizeT P f.type with
  | none => rw [h2] at h1; cases h1
  | some z =>
   have ih := places_ok (fs := fs) (w := w) l (fun f hf => h f (List.mem_cons_of_mem _ hf))
   simp only [List.mapM_cons, Sem.run_bind, run_size h2, Result.andThen_ok, Sem.run_pure, ih, List.map_cons, h2, Option.getD_some]

theorem gives_build (hr : AR E A n a) {o : Oper} {t : TypeId} {ps : Array (Nat × Operand)} {qs : List (Nat × AV)} {r : AV} (ho : o.op = .build t ps) (hq : allSome (fun p => (evA A p.2).map fun v => (p.1, v)) ps.toList = some qs) (h : evBuild P t qs = some r) : Gives P E a o r := by
 unfold evBuild at h
 split at h
 · rename_i z fs us hz hu hus
   obtain ⟨zv, hzv, hzr⟩ := zero_ok (E := E) hz
   have hp := parts_ok hr hq hus
   split at h
   · rename_i hall
     cases hf : fillF (fun i => (fs[i]?).bind fun f => (sizeT P f.type).map fun n => (f.offset, n)) z.cells us with
     | none => simp [hf] at h
     | some l =>
      simp only [hf, Option.map_some, Option.some.injEq] at h
      subst h
      obtain ⟨cs, hcs, hl⟩ := fill_ok us _ z.cells l zv.cells hp hzv.cells hf
      refine ⟨.agg cs, ⟨cs.toList, hl, rfl⟩, fun w => ?_⟩
      have hall' : ∀ f ∈ fs.toList, (sizeT P f.type).isSome := fun f hf => List.all_eq_true.1 hall f hf
      have hpl := places_ok (P := P) (fs := fs) (w := w) fs.toList hall'
      have hfun : (fun (i : Nat) => (fs[i]?).bind fun (f : Field) => (sizeT P f.type).map fun n => (f.offset, n)) = fun (i : Nat) => ((fs.map fun (f : Field) => (f.offset, (sizeT P f.type).getD 0))[i]? : Option (Nat × Nat)) := by
       funext i
       rw [Array.getElem?_map]
       cases hi : fs[i]? with
       | none => rfl
       | some f =>
        have h1 := hall' f (Array.mem_toList_iff.2 (Array.mem_of_getElem? hi))
        cases h2 : sizeT P f.type with
        | none => rw [h2] at h1; cases h1
        | some k => simp [h2]
      rw [hfun] at hcs
      have hmap : (fs.mapM fun f => do pure (f.offset, ← sizeOf f.type) : Sem (Array (Nat × Nat))).run P w = .ok (fs.map fun f => (f.offset, (sizeT P f.type).getD 0)) w := by
       have e2 : fs = fs.toList.toArray := by simp
       have e3 : (fs.toList.map fun f => (f.offset, (sizeT P f.type).getD 0)).toArray = fs.map fun f => (f.offset, (sizeT P f.type).getD 0) := Array.ext' (by rw [Array.toList_map])
       rw [← e3]
       conv => lhs; rw [e2]
       rw [List.mapM_toArray, Sem.run_map, hpl]
       rfl
      simp only [execOp, ho, Instr.build, Sem.run_bind, hzr, run_underlying hu, Result.andThen_ok, hmap, hcs, Sem.run_pure]
   · cases h
 · rename_i z k e us hz hu hus
   obtain ⟨zv, hzv, hzr⟩ := zero_ok (E := E) hz
   have hp := parts_ok hr hq hus
   split at h
   · rename_i m hm
     cases hf : fillF (fun i => some (i * m, m)) z.cells us with
     | none => simp [hf] at h
     | some l =>
      simp only [hf, Option.map_some, Option.some.injEq] at h
      subst h
      obtain ⟨cs, hcs, hl⟩ := fill_ok us _ z.cells l zv.cells hp hzv.cells hf
      refine ⟨.agg cs, ⟨cs.toList, hl, rfl⟩, fun w => ?_⟩
      simp only [execOp, ho, Instr.build, Sem.run_bind, hzr, run_underlying hu, Result.andThen_ok, run_size hm, hcs, Sem.run_pure]
   · cases h
 · cases h
theorem evPure_ok (hr : AR E A n a) {o : Oper} {r : AV} (h : evPure P A o = some r) : Gives P E a o r := by
 unfold evPure at h
 split at h
 · rename_i x ho
   exact gives_move hr (.inl ho) h
 · rename_i x ho
   exact gives_move hr (.inr ho) h
 · rename_i c x y ho
   split at h
   · rename_i hc
     exact gives_pick (b := true) hr ho hc h
   · rename_i hc
     exact gives_pick (b := false) hr ho hc h
   · cases h
 · rename_i t ps ho
   split at h
   · rename_i qs hq
     exact gives_build hr ho hq h
   · cases h
 · rename_i x ho
   split at h
   · rename_i k q hx
     cases h
     exact gives_nil hr ho hx (.inl ⟨_, _, rfl⟩)
   · cases h
 · rename_i op t x y c ho
   cases hx : evA A x with
   | none => simp [hx] at h
   | some p =>
    cases hy : evA A y with
    | none => simp [hx, hy] at h
    | some q =>
     simp only [hx, hy, Option.bind_some] at h
     split at h
     · split at h
       · rename_i hc
         split at h
         · rename_i hu
           cases h
           exact gives_bin_nil hr ⟨c, ho⟩ hx hy hc hu (.inl ⟨rfl, rfl⟩)
         · rename_i hu
           cases h
           exact gives_bin_nil hr ⟨c, ho⟩ hx hy hc hu (.inr ⟨rfl, rfl⟩)
         · cases h
       · cases h
     · exact gives_bin (z := true) hr ⟨c, ho⟩ hx hy h
 · rename_i op t x ho
   cases hx : evA A x with
   | none => simp [hx] at h
   | some p =>
    simp only [hx, Option.bind_some] at h
    exact gives_un hr ho hx h
 · rename_i s d x ho
   cases hx : evA A x with
   | none => simp [hx] at h
   | some p =>
    simp only [hx, Option.bind_some] at h
    exact gives_conv hr ho hx h
 · rename_i t x lo hi mx ho
   split at h
   · cases h
   · cases h
   · cases h
   · rename_i v hx h1 h2 h3
     exact gives_slice hr ho hx (by simpa using h1) (by simpa using h2) (by simpa using h3) h
   · cases h
 · rename_i s x f ho
   split at h
   · rename_i k q d ty hx hf
     split at h
     · rename_i m hs
       cases h
       exact gives_fieldAddr hr ho hx hf hs
     · cases h
   · cases h
 · rename_i t x f ho
   cases hx : evA A x with
   | none => simp [hx] at h
   | some p =>
    simp only [hx, Option.bind_some] at h
    exact gives_field hr ho hx h
 · rename_i t x i ho
   cases hx : evA A x with
   | none => simp [hx] at h
   | some p =>
    cases hi : evA A i with
    | none => simp [hx, hi] at h
    | some q =>
     simp only [hx, hi, Option.bind_some] at h
     exact gives_indexAddr hr ho hx hi h
 · rename_i t x i ho
   cases hx : evA A x with
   | none => simp [hx] at h
   | some p =>
    cases hi : evA A i with
    | none => simp [hx, hi] at h
    | some q =>
     simp only [hx, hi, Option.bind_some] at h
     exact gives_index hr ho hx hi h
 · rename_i x i ho
   split at h
   · rename_i l hx
     cases hy : l[i]? with
     | none => simp [hy] at h
     | some y =>
      simp only [hy, Option.map_some, Option.some.injEq] at h
      subst h
      exact gives_extract hr ho hx hy
   · cases h
 · rename_i c ho
   split at h
   · rename_i x t tl hc hx ht
     exact gives_len hr ho hc hx ht h
   · rename_i xs _ hc hx
     exact gives_max hr ho hc hx h
   · rename_i xs _ hc hx
     exact gives_min hr ho hc hx h
   · cases h
 · cases h
end
end Go.Ev
namespace Go.Ev
open Go Go.RowKit
variable [Sy]
section
variable {E : List Ent} {A : Fr} {n : Nat} {a : Act} {P : Program} {w0 : Base} {w : World} {h : Hp}
theorem cells_of (hr : Rep w0 E h w) {k b c : Nat} {q : AO} {l : List A1} (hk : E[k]? = some (.blk b c)) (hq : h.get k = some q) (hl : rowOf q = some l) :
  ∃ cs t fr, w.heap[b]? = some (.cells cs t fr) ∧ FrOk t cs.size fr ∧ l.length ≤ cs.size ∧ All2 (V1 E) l (cs.toList.take l.length) := by
 have h1 := (hr.obj k q (lt_of_get hr hk) hq).is hk
 cases q with
 | cells t m =>
  cases hl
  obtain ⟨cs, fr, h2, h3, h4⟩ := h1
  refine ⟨cs, t, fr, h2, h3, by rw [h4.length]; simp, ?_⟩
  rw [h4.length, List.take_length]
  exact h4
 | row t z m =>
  cases hl
  obtain ⟨cs, fr, h2, h3, _, _, h4⟩ := h1
  have h5 := h4.length
  rw [List.length_take] at h5
  have h6 : cs.toList.length = cs.size := Array.length_toList
  refine ⟨cs, t, fr, h2, h3, ?_, h4⟩
  omega
 | map _ _ => cases hl
 | iter _ _ _ _ => cases hl
 | siter _ _ => cases hl
 | clo _ _ => cases hl
 | ifc _ _ => cases hl
 | y _ => cases hl
 | mapx _ => cases hl
theorem cell_eq {b o : Nat} {cs : Array Value} {t : TypeId} {fr : Nat × Nat} (hb : w.heap[b]? = some (.cells cs t fr)) : w.cell? ⟨b, o, none⟩ = cs[o]? := by
 simp [World.cell?, hb]
theorem cell_at (hr : Rep w0 E h w) {k b c o : Nat} {q : AO} {l : List A1} {y : A1} (hk : E[k]? = some (.blk b c)) (hq : h.get k = some q) (hl : rowOf q = some l) (hy : l[o]? = some y) :
  ∃ v, V1 E y v ∧ w.cell? ⟨b, o, none⟩ = some v := by
 obtain ⟨cs, t, fr, h1, h2, h3, h4⟩ := cells_of hr hk hq hl
 obtain ⟨v, hv, hvv⟩ := h4.get o y hy
 refine ⟨v, hvv, ?_⟩
 rw [cell_eq h1]
 rw [List.getElem?_take] at hv
 split at hv
 · rw [← Array.getElem?_toList]
   exact hv
 · cases hv
theorem range_at (hr : Rep w0 E h w) {k b c o m : Nat} {q : AO} {l s : List A1} (hk : E[k]? = some (.blk b c)) (hq : h.get k = some q) (hl : rowOf q = some l) (hs : seg l o m = some s) :
  ∃ vs : List Value, All2 (V1 E) s vs ∧ vs.length = m ∧ w.rangeAt b o vs := by
 obtain ⟨cs, t, fr, h1, h2, h3, h4⟩ := cells_of hr hk hq hl
 obtain ⟨h5, rfl⟩ := seg_ok hs
 refine ⟨((cs.toList.take l.length).drop o).take m, (h4.drop o).take m, ?_, fun j v hj => ?_⟩
 · simp
   omega
 · rw [cell_eq h1, ← Array.getElem?_toList]
   rw [List.getElem?_take] at hj
   split at hj
   · rw [List.getElem?_drop, List.getElem?_take] at hj
     split at hj
     · exact hj
     · cases hj
   · cases hj
/-- What a reading operation's proof shows. -/
def Reads (P : Program) (E : List Ent) (a : Act) (w : World) (o : Oper) (y : AV) : Prop := ∃ v, VV E y v ∧ (execOp a.eval o).run P w = .ok (.value v) w
theorem reads_load (ha : AR E A n a) (hr : Rep w0 E h w) {o : Oper} {t : TypeId} {x : Operand} {p r : AV} (ho : o.op = .load t x) (hx : evA A x = some p) (he : evLoad P t p h = some r) : Reads P E a w o r := by
 have h1 := evA_ok ha x p hx
 unfold evLoad at he
 split at he
 · rename_i k q
   obtain ⟨b, c, hk, hv⟩ := h1
   cases hg : h.get k with
   | none => simp [hg] at he
   | some ob =>
    simp only [hg, Option.bind_some] at he
    split at he
    · rename_i l hl hag
      cases hy : l[q]? with
      | none => simp [hy] at he
      | some y =>
       simp only [hy, Option.map_some, Option.some.injEq] at he
       subst he
       obtain ⟨v, hvv, hc⟩ := cell_at hr hk hg hl hy
       exact ⟨v, hvv, by simp [execOp, ho, hv, Instr.loadAt, Instr.sureAddr, loadVar, run_agg hag, run_load, hc]⟩
    · rename_i l hl hag
      split at he
      · rename_i m hm
        cases hs : seg l q m with
        | none => simp [hs] at he
        | some s =>
         simp only [hs, Option.map_some, Option.some.injEq] at he
         subst he
         obtain ⟨vs, hvs, hlen, hra⟩ := range_at hr hk hg hl hs
         have hl : (loadCells ⟨b, q, none⟩ vs.length).run P w = .ok vs.toArray w :=
          run_loadCells_list (P := P) w ⟨b, q, none⟩ vs (fun j v hv => by rw [Addr.add_mid]; exact hra j v hv)
         rw [hlen] at hl
         exact ⟨.agg vs.toArray, ⟨vs, hvs, rfl⟩, by simp [execOp, ho, hv, Instr.loadAt, Instr.sureAddr, loadVar, run_agg hag, run_size hm, hl]⟩
      · cases he
    · cases he
 · cases he
theorem map_of (hr : Rep w0 E h w) {k b c cl : Nat} {es : List (A1 × A2 × Nat)} (hk : E[k]? = some (.blk b c)) (hq : h.get k = some (.map es cl)) : ∃ ms, w.heap[b]? = some (.map ms cl) ∧ All2 (ME E) es ms.toList :=
 (hr.obj k _ (lt_of_get hr hk) hq).is hk
theorem key_ok {kt : TypeId} {key : A1} {v : Value} (hk : keyOk (P.underlying kt) key = true) (hv : V1 E key v) : ∃ d, P.underlying kt = some d ∧ ((∃ q j i, d = .int q ∧ v = .int j i ∧ key = .i j i) ∨ (d = .string ∧ ∃ s, v = .string s)) := by
 unfold keyOk at hk
 split at hk
 · rename_i hd
   exact ⟨_, hd, .inl ⟨_, _, _, rfl, hv, rfl⟩⟩
 · rename_i hd
   exact ⟨_, hd, .inr ⟨rfl, _, hv.1⟩⟩
 · cases hk
theorem check_ok {kt : TypeId} {key : A1} {v : Value} (hk : keyOk (P.underlying kt) key = true) (hv : V1 E key v) (e : Bool) : (Instr.checkKey e 10000 kt v).run P w = .ok () w := by
 show (Instr.checkKey e (9999 + 1) kt v).run P w = .ok () w
 obtain ⟨d, hd, ⟨q, j, i, rfl, rfl, _⟩ | ⟨rfl, s, rfl⟩⟩ := key_ok hk hv
 · unfold Instr.checkKey
   simp only [Sem.run_bind, run_underlying hd, Result.andThen_ok]
   rfl
 · unfold Instr.checkKey
   simp only [Sem.run_bind, run_underlying hd, Result.andThen_ok]
   rfl
theorem eqL_iff : ∀ (a b : List Nat), eqL a b = true ↔ a = b
 | [], [] => by simp [eqL]
 | [], _ :: _ => by simp [eqL]
 | _ :: _, [] => by simp [eqL]
 | a :: l, b :: m => by
  have ih := eqL_iff l m
  unfold eqL
  cases h : Nat.beq a b with
  | false =>
   have : a ≠ b := fun e => by subst e; simp at h
   simp [this]
  | true =>
   have : a = b := Nat.eq_of_beq_eq_true h
   simp [this, ih]
theorem sameKey_ok {d : TypeDesc} {key x : A1} {v u : Value} {b : Bool} (hv : V1 E key v) (hu : V1 E x u) (hd : (∃ q j i, d = .int q ∧ v = .int j i ∧ key = .i j i) ∨ (d = .string ∧ ∃ s, v = .string s)) (hs : sameKey key x = some b) : Instr.sameNow d v u = some b ∧ (b = true → u = v) := by
 unfold sameKey at hs
 split at hs
 · rename_i k i k' i'
   have h1 : v = .int k i := hv
   have h2 : u = .int k' i' := hu
   subst h1; subst h2
   rcases hd with ⟨q, j, n, rfl, _, _⟩ | ⟨_, s, h3⟩
   · split at hs
     · rename_i hkk
       subst hkk
       cases hs
       refine ⟨by simp [Instr.sameNow], fun hb => ?_⟩
       rw [beq_iff_eq] at hb
       rw [hb]
     · cases hs
   · cases h3
 · rename_i a c
   obtain ⟨h1, g1⟩ : v = .string (bytes a) ∧ ∀ z ∈ a, z < 256 := hv
   obtain ⟨h2, g2⟩ : u = .string (bytes c) ∧ ∀ z ∈ c, z < 256 := hu
   subst h1; subst h2
   cases hs
   rcases hd with ⟨q, j, n, _, h3, _⟩ | ⟨rfl, s, _⟩
   · cases h3
   · have he : (bytes a == bytes c) = eqL a c := by
      rw [beq_toListBytes, toList_bytes, toList_bytes, beq_map g1 g2, Bool.eq_iff_iff, eqL_iff, beq_iff_eq]
     refine ⟨by simp [Instr.sameNow, he], fun hb => ?_⟩
     rw [eqL_iff] at hb
     rw [hb]
 · cases hs
theorem findNow_ok {d : TypeDesc} {key : A1} {v : Value} (hv : V1 E key v) (hd : (∃ q j i, d = .int q ∧ v = .int j i ∧ key = .i j i) ∨ (d = .string ∧ ∃ s, v = .string s)) : ∀ (es : List (A1 × A2 × Nat)) (ms : List MapEntry) (n : Nat) (r : Option (Nat × A2)), All2 (ME E) es ms → findE key es n = some r →
  (r = none ∧ Instr.findNow d v ms n = some none) ∨ ∃ i x u e m, r = some (n + i, x) ∧ V2 E x u ∧ Instr.findNow d v ms n = some (some (n + i, u)) ∧ es[i]? = some e ∧ ms[i]? = some m ∧ m.key = v
 | [], [], n, r, _, hf => by
  cases hf
  exact .inl ⟨rfl, rfl⟩
 | e :: es, m :: ms, n, r, hm, hf => by
  unfold findE at hf
  cases hs : sameKey key e.1 with
  | none => simp [hs] at hf
  | some b =>
   obtain ⟨h1, h2⟩ := sameKey_ok hv hm.1.1 hd hs
   cases b with
   | true =>
    simp only [hs, Option.some.injEq] at hf
    subst hf
    exact .inr ⟨0, e.2.1, m.val, e, m, rfl, hm.1.2.1, by simp [Instr.findNow, h1], rfl, rfl, h2 rfl⟩
   | false =>
    simp only [hs] at hf
    rcases findNow_ok hv hd es ms (n + 1) r hm.2 hf with ⟨g1, g2⟩ | ⟨i, x, u, e', m', g1, g2, g3, g4, g5, g6⟩
    · exact .inl ⟨g1, by simp [Instr.findNow, h1, g2]⟩
    · refine .inr ⟨i + 1, x, u, e', m', by rw [g1, show n + 1 + i = n + (i + 1) by omega], g2, ?_, by simpa using g4, by simpa using g5, g6⟩
      rw [show n + (i + 1) = n + 1 + i by omega]
      simp [Instr.findNow, h1, g3]
theorem find_ok {kt : TypeId} {key : A1} {v : Value} {es : List (A1 × A2 × Nat)} {ms : List MapEntry} {r : Option (Nat × A2)} (hk : keyOk (P.underlying kt) key = true) (hv : V1 E key v) (hm : All2 (ME E) es ms) (hf : findE key es 0 = some r) :
  (r = none ∧ (Instr.findKey kt v ms).run P w = .ok none w) ∨ ∃ i x u e m, r = some (i, x) ∧ V2 E x u ∧ (Instr.findKey kt v ms).run P w = .ok (some (i, u)) w ∧ es[i]? = some e ∧ ms[i]? = some m ∧ m.key = v := by
 obtain ⟨d, hd, hcase⟩ := key_ok hk hv
 rcases findNow_ok hv hcase es ms 0 r hm hf with ⟨h1, h2⟩ | ⟨i, x, u, e, m, h1, h2, h3, h4, h5, h6⟩
 · exact .inl ⟨h1, MapKept.run_findKey hd h2⟩
 · rw [Nat.zero_add] at h1 h3
   exact .inr ⟨i, x, u, e, m, h1, h2, MapKept.run_findKey hd h3, h4, h5, h6⟩
theorem reads_lookup (ha : AR E A n a) (hr : Rep w0 E h w) {o : Oper} {t : TypeId} {x i : Operand} {ok : Bool} {p q r : AV} (ho : o.op = .lookup t x i ok) (hx : evA A x = some p) (hi : evA A i = some q) (he : evLookup P h t p q ok = some r) : Reads P E a w o r := by
 have h1 := evA_ok ha x p hx
 have h2 := evA_ok ha i q hi
 unfold evLookup at he
 split at he
 · rename_i kt e es key hu hmap
   have h2 : V1 E key (a.eval i) := h2
   unfold mapOf at hmap
   split at hmap
   · rename_i k
     obtain ⟨b, c, hk, hv⟩ := h1
     cases hg : h.get k with
     | none => simp [hg] at hmap
     | some ob =>
      cases ob <;> simp only [hg] at hmap <;> first | (cases hmap; done) | skip
      rename_i es' cl
      cases hmap
      obtain ⟨ms, hb, hme⟩ := map_of hr hk hg
      split at he
      · rename_i y hko hf
        rcases find_ok (w := w) hko h2 hme hf with ⟨h3, _⟩ | ⟨j, y', u, _, _, h3, hu2, hrun, _⟩
        · cases h3
        · cases h3
          have hc := check_ok (w := w) hko h2 ms.isEmpty
          cases he
          cases ok
          · exact ⟨u, hu2, by simp [execOp, ho, hv, Instr.lookup, run_underlying hu, MapKept.run_getObj_map hb, hc, hrun]⟩
          · exact ⟨.tuple #[u, .bool true], ⟨[u, .bool true], ⟨hu2, rfl, trivial⟩, rfl⟩, by simp [execOp, ho, hv, Instr.lookup, run_underlying hu, MapKept.run_getObj_map hb, hc, hrun]⟩
      · rename_i hko hf
        rcases find_ok (w := w) hko h2 hme hf with ⟨_, hrun⟩ | ⟨j, y', u, _, _, h3, _⟩
        · split at he
          · rename_i z hz
            obtain ⟨u, hu2, hzr⟩ := zero_ok (E := E) hz
            have hc := check_ok (w := w) hko h2 ms.isEmpty
            cases he
            cases ok
            · exact ⟨u, hu2, by simp [execOp, ho, hv, Instr.lookup, run_underlying hu, MapKept.run_getObj_map hb, hc, hrun, hzr]⟩
            · exact ⟨.tuple #[u, .bool false], ⟨[u, .bool false], ⟨hu2, rfl, trivial⟩, rfl⟩, by simp [execOp, ho, hv, Instr.lookup, run_underlying hu, MapKept.run_getObj_map hb, hc, hrun, hzr]⟩
          · cases he
        · cases h3
      · cases he
   · cases hmap
 · cases he
theorem reads_lenM (ha : AR E A n a) (hr : Rep w0 E h w) {o : Oper} {c : Call} {x r : AV} {t : TypeId} {tl : List TypeId} (ho : o.op = .call c) (hc : c.callee = .builtin .len) (hx : allSome (evA A) c.args.toList = some [x]) (ht : c.argTypes.toList = t :: tl)
  (he : evLenM P h t x = some r) : Reads P E a w o r := by
 obtain ⟨v, hv, heq⟩ := args1 ha hx
 have h0 := ty0 ht
 unfold evLenM at he
 split at he
 · rename_i x _ _ kt e hu
   cases hmap : mapOf h x with
   | none => simp [hmap] at he
   | some es =>
    simp only [hmap, Option.map_some, Option.some.injEq] at he
    subst he
    unfold mapOf at hmap
    split at hmap
    · rename_i k
      obtain ⟨b, c', hk, hv⟩ := hv
      cases hg : h.get k with
      | none => simp [hg] at hmap
      | some ob =>
       cases ob <;> simp only [hg] at hmap <;> first | (cases hmap; done) | skip
       rename_i es' cl
       cases hmap
       obtain ⟨ms, hb, hme⟩ := map_of hr hk hg
       have hlen : es.length = ms.size := hme.length.trans Array.length_toList
       refine ⟨.int .i64 (es.length : Nat), rfl, ?_⟩
       subst hv
       simp [execOp, ho, resolve, hc, heq, invoke, builtin, Builtin.len_, h0, run_underlying hu, goInt, MapKept.run_getObj_map hb, hlen]
    · cases hmap
 · cases he
theorem find_born_ok {es : List (A1 × A2 × Nat)} {ms : List MapEntry} {s : Nat} {e : A1 × A2 × Nat} : All2 (ME E) es ms → (es.find? fun e => e.2.2 == s) = some e → ∃ m, (ms.find? fun m => m.born == s) = some m ∧ ME E e m := by
 induction es generalizing ms with
 | nil => intro _ h; cases h
 | cons x es ih =>
  cases ms with
  | nil => intro h; exact h.elim
  | cons m ms =>
   intro hm hf
   have hb : m.born = x.2.2 := hm.1.2.2
   rw [List.find?_cons] at hf ⊢
   rw [hb]
   cases hc : x.2.2 == s with
   | true =>
    simp only [hc, Option.some.injEq] at hf
    subst hf
    exact ⟨m, rfl, hm.1⟩
   | false =>
    simp only [hc] at hf
    exact ih hm.2 hf
theorem reads_entry (ha : AR E A n a) (hr : Rep w0 E h w) {o : Oper} {x : Operand} {p r : AV} (ho : o.op = .entry x) (hx : evA A x = some p) (he : evEntry h p = some r) : Reads P E a w o r := by
 have h1 := evA_ok ha x p hx
 unfold evEntry at he
 split at he
 · rename_i k
   obtain ⟨b, c, hk, hv⟩ := h1
   split at he
   · rename_i m since seen st hg
     obtain ⟨b', c', hk', hb⟩ := (hr.obj k _ (lt_of_get hr hk) hg).is hk
     split at he
     · rename_i es cl s hg' hs
       obtain ⟨ms, hb', hme⟩ := map_of hr hk' hg'
       split at he
       · rename_i hcl
         cases hf : es.find? fun e => e.2.2 == s with
         | none => simp [hf] at he
         | some e =>
          simp only [hf, Option.map_some, Option.some.injEq] at he
          subst he
          obtain ⟨me, hfm, hm⟩ := find_born_ok hme hf
          refine ⟨.tuple #[me.key, me.val], ⟨[me.key, me.val], ⟨hm.1, hm.2.1, trivial⟩, rfl⟩, ?_⟩
          have hback : (seen.toArray).back? = some s := by simpa using hs
          have hfa : ms.find? (fun x => x.born == s) = some me := by rw [← Array.find?_toList]; exact hfm
          subst hcl
          simp [execOp, ho, hv, Instr.entry, getObj, Sem.run, hb, hb', hback, hfa]
       · cases he
     · cases he
   · cases he
 · cases he
theorem isIface_ok {t : TypeId} (hi : isIface P t = some false) : ∃ d, P.underlying t = some d ∧ ∀ ms, d ≠ .interface ms := by
 unfold isIface at hi
 cases hd : P.underlying t with
 | none => simp [hd] at hi
 | some d =>
  refine ⟨d, rfl, ?_⟩
  rintro ms rfl
  simp [hd] at hi
theorem reads_assert (ha : AR E A n a) (hr : Rep w0 E h w) {o : Oper} {x : Operand} {xt want : TypeId} {ok : Bool} {p r : AV} (ho : o.op = .typeAssert x xt want ok) (hx : evA A x = some p) (he : evAssert P h p want ok = some r) : Reads P E a w o r := by
 have h1 := evA_ok ha x p hx
 unfold evAssert at he
 split at he
 · rename_i t k hi
   obtain ⟨d, hd, hne⟩ := isIface_ok hi
   obtain ⟨hk, y, hv⟩ := h1
   split at he
   · rename_i htw
     split at he
     · rename_i t' z hg
       obtain ⟨u, hk', hz⟩ : ∃ v : Value, E[k]? = some (.clo (.iface t' v)) ∧ V2 E z v := hr.obj k _ (lt_of_get hr hk) hg
       have heq : a.eval x = .iface t' u := by
        rw [hk] at hk'
        injection hk' with hk'
        injection hk'
       rw [hv] at heq
       cases heq
       cases he
       have hrun : ∀ f : Value → Sem Value, True := fun _ => trivial
       cases ok
       · refine ⟨y, hz, ?_⟩
         cases d <;> first | (exact absurd rfl (hne _)) | simp [execOp, ho, hv, Instr.typeAssert, run_underlying hd, htw]
       · refine ⟨.tuple #[y, .bool true], ⟨[y, .bool true], ⟨hz, rfl, trivial⟩, rfl⟩, ?_⟩
         cases d <;> first | (exact absurd rfl (hne _)) | simp [execOp, ho, hv, Instr.typeAssert, run_underlying hd, htw]
     · cases he
   · rename_i htw
     split at he
     · rename_i hok
       subst hok
       cases hz : zeroT P want with
       | none => simp [hz] at he
       | some z =>
        simp only [hz, Option.map_some, Option.some.injEq] at he
        subst he
        obtain ⟨u, hu2, hzr⟩ := zero_ok (E := E) hz
        refine ⟨.tuple #[u, .bool false], ⟨[u, .bool false], ⟨hu2, rfl, trivial⟩, rfl⟩, ?_⟩
        cases d <;> first | (exact absurd rfl (hne _)) | simp [execOp, ho, hv, Instr.typeAssert, run_underlying hd, htw, hzr]
     · cases he
 · rename_i hi
   obtain ⟨d, hd, hne⟩ := isIface_ok hi
   have hv : a.eval x = .nilIface := h1
   split at he
   · rename_i hok
     subst hok
     cases hz : zeroT P want with
     | none => simp [hz] at he
     | some z =>
      simp only [hz, Option.map_some, Option.some.injEq] at he
      subst he
      obtain ⟨u, hu2, hzr⟩ := zero_ok (E := E) hz
      refine ⟨.tuple #[u, .bool false], ⟨[u, .bool false], ⟨hu2, rfl, trivial⟩, rfl⟩, ?_⟩
      cases d <;> first | (exact absurd rfl (hne _)) | simp [execOp, ho, hv, Instr.typeAssert, run_underlying hd, hzr]
   · cases he
 · cases he
theorem evRead_ok (ha : AR E A n a) (hr : Rep w0 E h w) {o : Oper} {r : AV} (he : evRead P A h o = some r) : Reads P E a w o r := by
 unfold evRead at he
 split at he
 · rename_i t x ho
   cases hx : evA A x with
   | none => simp [hx] at he
   | some p =>
    simp only [hx, Option.bind_some] at he
    exact reads_load ha hr ho hx he
 · rename_i t x i ok ho
   cases hx : evA A x with
   | none => simp [hx] at he
   | some p =>
    cases hi : evA A i with
    | none => simp [hx, hi] at he
    | some q =>
     simp only [hx, hi, Option.bind_some] at he
     exact reads_lookup ha hr ho hx hi he
 · rename_i x ho
   cases hx : evA A x with
   | none => simp [hx] at he
   | some p =>
    simp only [hx, Option.bind_some] at he
    exact reads_entry ha hr ho hx he
 · rename_i x xt want ok ho
   cases hx : evA A x with
   | none => simp [hx] at he
   | some p =>
    simp only [hx, Option.bind_some] at he
    exact reads_assert ha hr ho hx he
 · rename_i c ho
   split at he
   · rename_i x t tl hc hx ht
     exact reads_lenM ha hr ho hc hx ht he
   · cases he
 · cases he
end
end Go.Ev
namespace Go.Ev
open Go Go.RowKit
variable [Sy]
section
variable {E : List Ent} {A : Fr} {n : Nat} {a : Act} {P : Program} {w0 : Base} {w : World} {h : Hp}
/-- A list, a part of it overwritten. -/
def overV (vs : List Value) (o : Nat) (us : List Value) : List Value := vs.take o ++ us ++ vs.drop (o + us.length)
theorem overV_take {vs us : List Value} {o L : Nat} (h1 : o + us.length ≤ L) (h2 : L ≤ vs.length) : (overV vs o us).take L = overV (vs.take L) o us := by
 unfold overV
 apply List.ext_getElem?
 intro k
 rw [List.getElem?_take]
 by_cases hk : k < L
 · rw [if_pos hk, List.append_assoc, List.append_assoc]
   by_cases h3 : k < o
   · rw [List.getElem?_append_left (by simp; omega), List.getElem?_append_left (by simp; omega), List.getElem?_take, List.getElem?_take, List.getElem?_take, if_pos hk]
   · have e1 : (vs.take o).length = o := by simp; omega
     have e2 : ((vs.take L).take o).length = o := by simp; omega
     rw [List.getElem?_append_right (l₁ := vs.take o) (by omega), List.getElem?_append_right (l₁ := (vs.take L).take o) (by omega), e1, e2]
     by_cases h4 : k - o < us.length
     · rw [List.getElem?_append_left h4, List.getElem?_append_left h4]
     · rw [List.getElem?_append_right (l₁ := us) (l₂ := vs.drop (o + us.length)) (by omega), List.getElem?_append_right (l₁ := us) (by omega), List.getElem?_drop, List.getElem?_drop, List.getElem?_take, if_pos (by omega)]
 · rw [if_neg hk]
   symm
   apply List.getElem?_eq_none
   simp
   omega
theorem blk_set {b t : Nat} {fr : Nat × Nat} {W : World} {cs : Array Value} (h : W.heap[b]? = some (.cells cs t fr)) (o : Nat) (v : Value) : (W.setCell ⟨b, o, none⟩ v).heap[b]? = some (.cells (cs.setIfInBounds o v) t fr) := by
 have hlt : b < W.heap.size := (Array.getElem?_eq_some_iff.1 h).1
 have hg : W.heap[b] = .cells cs t fr := (Array.getElem?_eq_some_iff.1 h).2
 simp only [World.setCell, Array.getElem?_modify, h, Option.map_some, if_pos]
 rfl
theorem setCells_far (b : Nat) : ∀ (vs : List Value) (o : Nat) (W : World) (k : Nat), k ≠ b → (W.setCells b o vs).heap[k]? = W.heap[k]?
 | [], _, _, _, _ => rfl
 | v :: r, o, W, k, hk => by
  rw [World.setCells, setCells_far b r (o + 1) _ k hk]
  exact Below.heap_setCell W ⟨b, o, none⟩ v k hk
theorem setCells_size (b : Nat) : ∀ (vs : List Value) (o : Nat) (W : World), (W.setCells b o vs).heap.size = W.heap.size
 | [], _, _ => rfl
 | v :: r, o, W => by
  rw [World.setCells, setCells_size b r (o + 1) _]
  simp [World.setCell]
theorem below_setCells {b : Nat} (hb : ¬ w0.pr b) : ∀ (vs : List Value) (o : Nat) (W : World), Kept w0 W → Kept w0 (W.setCells b o vs)
 | [], _, _, h => h
 | v :: r, o, W, h => below_setCells hb r (o + 1) _ (h.setCell (p := ⟨b, o, none⟩) hb v)
theorem setCells_row {b t : Nat} {fr : Nat × Nat} : ∀ (vs : List Value) (o : Nat) (W : World) (cs : Array Value), W.heap[b]? = some (.cells cs t fr) → o + vs.length ≤ cs.size →
   ∃ cs', (W.setCells b o vs).heap[b]? = some (.cells cs' t fr) ∧ cs'.size = cs.size ∧ cs'.toList = overV cs.toList o vs
 | [], o, W, cs, h, _ => ⟨cs, h, rfl, by simp [overV]⟩
 | v :: r, o, W, cs, h, hl => by
  simp only [List.length_cons] at hl
  obtain ⟨cs', h1, h2, h3⟩ := setCells_row r (o + 1) (W.setCell ⟨b, o, none⟩ v) _ (blk_set h o v) (by rw [Array.size_setIfInBounds]; omega)
  refine ⟨cs', h1, by simpa using h2, ?_⟩
  rw [h3]
  have hsz : cs.toList.length = cs.size := Array.length_toList
  unfold overV
  have e1 : (cs.setIfInBounds o v).toList = cs.toList.set o v := by simp
  rw [e1]
  apply List.ext_getElem?
  intro k
  rw [List.append_assoc, List.append_assoc]
  by_cases h4 : k < o
  · rw [List.getElem?_append_left (by simp; omega), List.getElem?_append_left (by simp; omega), List.getElem?_take, List.getElem?_take, if_pos (by omega), if_pos h4, List.getElem?_set, if_neg (by omega)]
  · have l2 : (cs.toList.take o).length = o := by simp; omega
    have l1 : ((cs.toList.set o v).take (o + 1)).length = o + 1 := by simp; omega
    rw [List.getElem?_append_right (l₁ := cs.toList.take o) (by omega), l2]
    by_cases h5 : k = o
    · subst h5
      rw [List.getElem?_append_left (l₁ := (cs.toList.set k v).take (k + 1)) (by omega), List.getElem?_take, if_pos (by omega), List.getElem?_set, if_pos rfl, if_pos (by omega), Nat.sub_self]
      rfl
    · rw [List.getElem?_append_right (l₁ := (cs.toList.set o v).take (o + 1)) (by omega), l1, show k - o = (k - (o + 1)) + 1 by omega, List.cons_append, List.getElem?_cons_succ]
      by_cases h6 : k - (o + 1) < r.length
      · rw [List.getElem?_append_left h6, List.getElem?_append_left h6]
      · rw [List.getElem?_append_right (by omega), List.getElem?_append_right (by omega), List.getElem?_drop, List.getElem?_drop, List.getElem?_set, if_neg (by omega)]
        congr 1
        simp
        omega
theorem over_allV {l cs m : List A1} {o : Nat} {vs us : List Value} (h : over l o cs = some m) (hl : All2 (V1 E) l vs) (hc : All2 (V1 E) cs us) : All2 (V1 E) m (overV vs o us) := over_all h hl hc
theorem over_len {l cs m : List A1} {o : Nat} (h : over l o cs = some m) : m.length = l.length := by
 obtain ⟨h1, rfl⟩ := over_ok h
 simp
 omega
/-- Some cells of a block that is told of are written over. -/
theorem eff_write (hr : Rep w0 E h w) {k b c o : Nat} {q q' : AO} {l l' cs : List A1} {us : List Value} (hk : E[k]? = some (.blk b c)) (hq : h.get k = some q) (hl : rowOf q = some l) (hov : over l o cs = some l') (hre : reRow q l' = some q') (hus : All2 (V1 E) cs us) :
  (storeCells ⟨b, o, none⟩ us).run P w = .ok () (w.setCells b o us) ∧ Rep w0 E (h.put k q') (w.setCells b o us) := by
 obtain ⟨vs, t, fr, h1, h2, h3, h4⟩ := cells_of hr hk hq hl
 obtain ⟨h5, _⟩ := over_ok hov
 have hlen : cs.length = us.length := hus.length
 obtain ⟨vs', g1, g2, g3⟩ := setCells_row us o w vs h1 (by omega)
 refine ⟨?_, ?_⟩
 · have := run_storeCells_cells (P := P) b o us 0 w (fun j hj => ?_) (fun j hj => ?_) (fun v hv => ?_)
   · simpa using this
   · rw [cell_eq h1]
     simp
     omega
   · have hle : o + 0 + j < vs.size := by omega
     simp only [World.frozen?, h1]
     rcases h2 with h2 | h2
     · have : ¬ fr.1 ≤ o + 0 + j := by omega
       simp [this]
       intro h9
       omega
     · subst h2
       simp
   · obtain ⟨x, _, hx⟩ := hus.mem v hv
     exact V1.oneCell x v hx
 · have hlt := hr.old k q b c (lt_of_get hr hk) hq hk
   refine hr.put hk hq (below_setCells hlt.1 us o w hr.below) (by rw [setCells_size]; exact Nat.le_refl _) ?_ (fun j hj _ => setCells_far b us o w j hj)
   rw [g1]
   have h1' := (hr.obj k q (lt_of_get hr hk) hq).is hk
   cases q with
   | cells t' m =>
    cases hl
    cases hre
    obtain ⟨cs0, fr0, k1, k2, k3⟩ := h1'
    rw [h1] at k1
    cases k1
    refine ⟨vs', fr, rfl, by rw [g2]; exact h2, ?_⟩
    rw [g3]
    exact over_allV hov k3 hus
   | row t' z m =>
    cases hl
    cases hre
    obtain ⟨cs0, fr0, k1, k2, k3, k4, k5⟩ := h1'
    rw [h1] at k1
    cases k1
    refine ⟨vs', fr, rfl, by rw [g2]; exact h2, by rw [g2]; exact k3, k4, ?_⟩
    rw [g3, over_len hov, overV_take (by omega) (by rw [Array.length_toList]; exact h3)]
    exact over_allV hov k5 hus
   | map _ _ => cases hl
   | iter _ _ _ _ => cases hl
   | siter _ _ => cases hl
   | clo _ _ => cases hl
   | ifc _ _ => cases hl
   | y _ => cases hl
   | mapx _ => cases hl
/-- What a turning operation's proof shows. -/
def Turns (P : Program) (w0 : Base) (E : List Ent) (a : Act) (w : World) (o : Oper) (y : AV) (h' : Hp) : Prop :=
 ∃ E' w' v, Pre E E' ∧ Rep w0 E' h' w' ∧ VV E' y v ∧ ((execOp a.eval o).run P w = .ok (.value v) w' ∨ ((execOp a.eval o).run P w = .ok .skip w' ∧ v = undef))
theorem turns_store (ha : AR E A n a) (hr : Rep w0 E h w) {o : Oper} {t : TypeId} {x y : Operand} {p q : AV} {us : List U} (ho : o.op = .store t x y) (hx : evA A x = some p) (hy : evA A y = some q) (he : evStore P t p q h = some us) : Turns P w0 E a w o undefA (apU h us) := by
 have h1 := evA_ok ha x p hx
 have h2 := evA_ok ha y q hy
 unfold evStore at he
 split at he
 · rename_i k f z
   obtain ⟨b, c, hk, hv⟩ := h1
   split at he
   · rename_i ob m hg hs
     split at he
     · rename_i hlen
       split at he
       · rename_i l hl
         split at he
         · rename_i l' hov
           cases hre : reRow ob l' with
           | none => simp [hre] at he
           | some q' =>
            simp only [hre, Option.map_some, Option.some.injEq] at he
            subst he
            have hz : All2 (V1 E) z.cells (a.eval y).cells.toList := V2.cells h2
            obtain ⟨g1, g2⟩ := eff_write (P := P) hr hk hg hl hov hre hz
            refine ⟨E, _, undef, Pre.refl E, g2, undef_ok, .inr ⟨?_, rfl⟩⟩
            have hsz : ¬ ((a.eval y).cells.size ≠ m) := by
             have := hz.length.trans Array.length_toList
             omega
            simp only [execOp, ho, hv, Instr.storeAt, Instr.sureAddr, storeVar, Sem.run_bind, Sem.run_pure, Result.andThen_ok, run_size hs, if_neg hsz, g1]
         · cases he
       · cases he
     · cases he
   · cases he
 · cases he
/-- A new block of cells. -/
theorem alloc_cells (hr : Rep w0 E h w) {l : List A1} {cs : Array Value} {t : TypeId} (c : Nat) (hn : h.n < 2 ^ D) (hl : All2 (V1 E) l cs.toList) : Rep w0 (E ++ [.blk w.heap.size c]) (h.new (.cells t l)) (w.alloc (.cells cs t)) :=
 hr.alloc c hn ⟨cs, (0, 0), rfl, .inr rfl, hl.imp (V1.ext (Ext.one E _))⟩
theorem last_new (hr : Rep w0 E h w) (e : Ent) : (E ++ [e])[h.n]? = some e := by rw [← hr.len]; simp
theorem turns_new (ha : AR E A n a) (hr : Rep w0 E h w) {o : Oper} {t : TypeId} {x : A2} {v : Value} {r : AV} {us : List U} (hx : V2 E x v) (he : evNew h t x = some (r, us))
  (hrun : (execOp a.eval o).run P w = .ok (.value (.pointer (some ⟨w.heap.size, 0, none⟩))) (w.alloc (.cells v.cells t))) : Turns P w0 E a w o r (apU h us) := by
 unfold evNew at he
 split at he
 · rename_i hn
   cases he
   refine ⟨_, _, _, Pre.one E _, alloc_cells hr 0 hn (V2.cells hx), ⟨w.heap.size, 0, last_new hr _, rfl⟩, .inl hrun⟩
 · cases he
theorem turns_alloc (ha : AR E A n a) (hr : Rep w0 E h w) {o : Oper} {t : TypeId} {z : A2} {r : AV} {us : List U} (ho : o.op = .alloc t) (hz : zeroT P t = some z) (he : evNew h t z = some (r, us)) : Turns P w0 E a w o r (apU h us) := by
 obtain ⟨v, hv, hrun⟩ := zero_ok (E := E) hz
 refine turns_new ha hr hv he ?_
 simp only [execOp, ho, Instr.alloc, newVar, newRow, Sem.run_bind, hrun, Result.andThen_ok, Sem.run_pure, run_newObj]
 rfl
theorem turns_box (ha : AR E A n a) (hr : Rep w0 E h w) {o : Oper} {t : TypeId} {x : Operand} {z : A2} {r : AV} {us : List U} (ho : o.op = .box t x) (hx : evA A x = some (.v z)) (he : evNew h t z = some (r, us)) : Turns P w0 E a w o r (apU h us) := by
 refine turns_new ha hr (evA_ok ha x _ hx) he ?_
 simp only [execOp, ho, Instr.box, newVar, newRow, Sem.run_bind, Result.andThen_ok, Sem.run_pure, run_newObj]
 rfl
/-! ### Rows of noughts -/
theorem made_list (z : Array Value) (m : Nat) : (madeCells z (m * z.size)).toList = (List.replicate m z.toList).flatten := by
 induction m with
 | zero => simp [madeCells, Array.range_zero']
 | succ m ih =>
  rw [List.replicate_succ', List.flatten_append, ← ih]
  have e1 : (madeCells z ((m + 1) * z.size)).toList = (List.range ((m + 1) * z.size)).map (fun i => z[i % z.size]!) := by simp [madeCells, Array.toList_range]
  have e2 : (madeCells z (m * z.size)).toList = (List.range (m * z.size)).map (fun i => z[i % z.size]!) := by simp [madeCells, Array.toList_range]
  rw [e1, e2, Nat.succ_mul, List.range_add, List.map_append]
  congr 1
  simp only [List.flatten_cons, List.flatten_nil, List.append_nil]
  apply List.ext_getElem?
  intro k
  rw [List.map_map, List.getElem?_map]
  by_cases hk : k < z.size
  · rw [List.getElem?_range hk]
    simp only [Option.map_some, Function.comp]
    rw [Nat.mul_comm m, Nat.mul_add_mod, Nat.mod_eq_of_lt hk, Array.getElem?_toList]
    simp [hk]
  · rw [List.getElem?_eq_none (by simp; omega), List.getElem?_eq_none (by simp; omega)]
    rfl
theorem zeros_ok {l : List A1} {vs : List Value} (h : All2 (V1 E) l vs) (m : Nat) : All2 (V1 E) (zeros l m) (List.replicate m vs).flatten := by
 unfold zeros
 induction m with
 | zero => trivial
 | succ m ih =>
  rw [List.replicate_succ, List.replicate_succ, List.flatten_cons, List.flatten_cons]
  exact h.append ih
theorem info_of {t : TypeId} {z : A2} (hz : zeroT P t = some z) : ∃ i v, P.info? t = some i ∧ i.zero = some v ∧ V2 E z v := by
 unfold zeroT at hz
 cases hi : P.info? t with
 | none => rw [hi] at hz; cases hz
 | some i =>
  cases hv : i.zero with
  | none => simp [hi, hv] at hz
  | some v =>
   refine ⟨i, v, rfl, hv, asA2_ok v z ?_⟩
   simpa [hi, hv] using hz
theorem size_of {t : TypeId} {m : Nat} {i : TypeInfo} (hi : P.info? t = some i) (hs : sizeT P t = some m) : i.size = m := by
 unfold sizeT at hs
 rw [hi] at hs
 exact Option.some.inj hs
theorem bytes_of {t : TypeId} {m : Nat} {i : TypeInfo} (hi : P.info? t = some i) (hs : bytesT P t = some m) : i.bytes = m := by
 unfold bytesT at hs
 rw [hi] at hs
 exact Option.some.inj hs
theorem turns_makeSlice (ha : AR E A n a) (hr : Rep w0 E h w) {o : Oper} {t : TypeId} {x y : Operand} {p q r : AV} {us : List U} (ho : o.op = .makeSlice t x y) (hx : evA A x = some p) (hy : evA A y = some q) (he : evMakeSlice P h t p q = some (r, us)) : Turns P w0 E a w o r (apU h us) := by
 have h1 := evA_ok ha x p hx
 have h2 := evA_ok ha y q hy
 unfold evMakeSlice at he
 split at he
 · rename_i e i j hel hi hj
   obtain ⟨k1, hv1⟩ := intOf_ok hi h1
   obtain ⟨k2, hv2⟩ := intOf_ok hj h2
   split at he
   · rename_i z m by_ hz hs hb
     split at he
     · rename_i hc
       obtain ⟨c1, c2, c3, c4, c5, c6⟩ := hc
       cases he
       obtain ⟨info, v, hi1, hi2, hv⟩ := info_of (E := E) hz
       have hsz := size_of hi1 hs
       have hby := bytes_of hi1 hb
       have hcells := V2.cells hv
       have hvs : v.cells.size = m := by rw [← Array.length_toList, ← hcells.length]; exact c5
       have hmul : (info.bytes : Int) * j ≤ 281474976710656 := by
        rw [hby]
        have : (by_ : Int) * j ≤ 1000000 * 1000000 := Int.mul_le_mul (by omega) c3 (by omega) (by omega)
        omega
       have hrun := run_make (P := P) w t e info v (elem_ok hel) hi1 hi2 k1 k2 i j c1 c2 hmul (by omega)
       refine ⟨_, _, _, Pre.one E _, alloc_cells hr 0 c6 (cs := madeCells v.cells (j.toNat * info.size)) (t := e) ?_, ⟨w.heap.size, 0, last_new hr _, rfl, ?_⟩, .inl ?_⟩
       · rw [hsz, ← hvs, made_list]
         exact zeros_ok hcells _
       · show i.toNat ≤ j.toNat
         omega
       · simp only [execOp, ho, hv1, hv2, Sem.run_bind, hrun, Result.andThen_ok, Sem.run_pure]
         rfl
     · cases he
   · cases he
 · cases he
end
end Go.Ev
