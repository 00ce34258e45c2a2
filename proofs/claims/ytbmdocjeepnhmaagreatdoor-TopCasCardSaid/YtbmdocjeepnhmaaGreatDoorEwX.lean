/- More operations of the reckoner's: nothing appended, cells of a slice cleared, a slice cut behind its length. -/
import Derived.Test.YtbmdocjeepnhmaaGreatDoorEw14
set_option linter.unusedVariables false
set_option linter.unusedSimpArgs false
set_option linter.unusedSectionVars false
namespace Go.Ev
open Go Go.RowKit
/-- All that there is stays. -/
def Base.all (w : World) : Base := ⟨w, fun b => b < w.heap.size, fun _ h => h⟩
theorem Kept.refl (z : Base) : Kept z z.w := ⟨rfl, rfl, rfl, Nat.le_refl _, fun _ _ => rfl⟩
theorem Kept.then {z : Base} {w w' : World} (h : Kept z w) (k : Kept (Base.all w) w') : Kept z w' := ⟨k.os.trans h.os, k.tape.trans h.tape, k.output.trans h.output, Nat.le_trans h.size k.size, fun b hb => (k.block b (Nat.lt_of_lt_of_le (z.lt b hb) h.size)).trans (h.block b hb)⟩
section
variable (P : Program)
/-- Nothing is appended. -/
def evAppend0 (t u : TypeId) (s x : AV) : Option (AV × List U) :=
 if t = u then
 match elemT P t with
 | none => none
 | some e => match sizeT P e, lenIn x, s with
  | some _, some 0, .v (.one .nils) => some (s, [])
  | some _, some 0, .v (.one (.sl ..)) => some (s, [])
  | _, _, _ => none
 else none
/-- A slice's cells are made zero. -/
def evClearS (h : Hp) (t : TypeId) (x : AV) : Option (List U) :=
 match P.underlying t, x with
 | some (.slice e), .v (.one (.sl k o n c)) => match zeroT P e, h.get k with
   | some (.one z), some q => if 0 < n then match (rowOf q).bind fun l => over l o (List.replicate n z) with
      | some l' => (reRow q l').map fun q' => [.put k q']
      | none => none
     else none
   | _, _ => none
 | some (.slice e), y => if lenIn y = some 0 then some [] else none
 | _, _ => none
/-- A slice that is cut behind its length, within what its block is known to hold. -/
def evSliceM (h : Hp) (t : TypeId) (x : AV) (lo : Option AV) (hi : AV) : Option (AV × List U) :=
 match P.underlying t, x with
 | some (.slice e), .v (.one (.sl k o n (.un j))) => match sizeT P e, bnd 0 lo, bnd 0 (some hi), h.get k with
   | some z, some a, some b, some (.row _ z' l) => if z' = z ∧ 0 < z ∧ a < b ∧ (b + j) * z ≤ l.length then some (.v (.one (.sl k (o + a * z) (b - a) (.un (j + a)))), []) else none
   | _, _, _, _ => none
 | _, _ => none
def ruX (A : Fr) (h : Hp) (o : Oper) : Option (AV × List U) := match o.op with
 | .call c => match c.callee, allSome (evA A) c.args.toList, c.argTypes.toList with
   | .builtin .append, some [s, x], [t, u] => evAppend0 P t u s x
   | .builtin .clear, some [x], t :: _ => (evClearS P h t x).map fun us => (.tup [], us)
   | _, _, _ => none
 | .slice t x lo (some hi) none => match evA A x, lo.map (evA A), evA A hi with
   | some v, some none, _ => none
   | some v, a, some b => evSliceM P h t v a.join b
   | _, _, _ => none
 | _ => none
end
variable [Sy]
section
variable {E : List Ent} {A : Fr} {n : Nat} {a : Act} {P : Program} {w0 : Base} {w : World} {h : Hp}
theorem len0 {x : AV} {v : Value} (hv : VV E x v) (h : lenIn x = some 0) : ∃ b c, v = .slice b 0 c := by
 unfold lenIn at h
 split at h
 · exact ⟨none, 0, hv⟩
 · cases h
   obtain ⟨b, c', hk, e1, _⟩ := hv
   exact ⟨_, _, e1⟩
 · obtain ⟨b, c', hk, e1⟩ := hv
   exact ⟨_, _, e1⟩
 · cases h
theorem run_append_none {t ty e : TypeId} {z : Nat} (ht : P.underlying t = some (.slice e)) (hz : sizeT P e = some z) {base xb : Option Addr} {n cap c : Nat} (hn : n ≤ cap) : (Builtin.append_ #[t, t] ty #[.slice base n cap, .slice xb 0 c]).run P w = .ok (.slice base n cap) w := by
 obtain ⟨i, hi, rfl⟩ : ∃ i, P.info? e = some i ∧ i.size = z := by
  unfold sizeT at hz
  cases hi : P.info? e with
  | none => simp [hi] at hz
  | some i => exact ⟨i, rfl, by simpa [hi] using hz⟩
 have h0 : ∀ a : Addr, (loadCells a 0).run P w = .ok #[] w := fun a => run_loadCells_list (P := P) w a [] (fun j v hj => by simp at hj)
 cases xb <;> cases base <;> simp [Builtin.append_, run_underlying ht, sizeOf, typeInfo, hi, Builtin.lenOf, hn, Builtin.firstCells, h0, storeCells]
theorem turns_append0 (ha : AR E A n a) (hr : Rep w0 E h w) {o : Oper} {c : Call} {x y r : AV} {t u : TypeId} {us : List U} (ho : o.op = .call c) (hc : c.callee = .builtin .append) (hx : allSome (evA A) c.args.toList = some [x, y]) (ht : c.argTypes.toList = [t, u])
  (he : evAppend0 P t u x y = some (r, us)) : Turns P w0 E a w o r (apU h us) := by
 obtain ⟨v, vx, hv, hvx, heq⟩ := args2 ha hx
 have hts : c.argTypes = #[t, u] := by
  apply Array.toList_inj.1
  simpa using ht
 unfold evAppend0 at he
 split at he
 · rename_i htu
   subst htu
   split at he
   · cases he
   · rename_i e hel
     have hu := elem_ok hel
     split at he
     · rename_i z hz hl
       cases he
       obtain ⟨xb, cx, rfl⟩ := len0 hvx hl
       have hv' : v = .slice none 0 0 := hv
       subst hv'
       refine ⟨E, w, _, Pre.refl E, hr, hv, .inl ?_⟩
       have := run_append_none (P := P) (w := w) (ty := o.type) hu hz (base := none) (xb := xb) (n := 0) (cap := 0) (c := cx) (Nat.le_refl _)
       simp [execOp, ho, resolve, hc, heq, invoke, builtin, hts, this]
     · rename_i z k q m cc hz hl
       cases he
       obtain ⟨xb, cx, rfl⟩ := len0 hvx hl
       obtain ⟨b, c', hk, e1, e2⟩ := hv
       refine ⟨E, w, v, Pre.refl E, hr, ⟨b, c', hk, e1, e2⟩, .inl ?_⟩
       subst e1
       have := run_append_none (P := P) (w := w) (ty := o.type) hu hz (base := some ⟨b, q, none⟩) (xb := xb) (n := m) (cap := capOf c' cc) (c := cx) e2
       simp [execOp, ho, resolve, hc, heq, invoke, builtin, hts, this]
     · cases he
 · cases he
theorem zeros_eq (z : Value) (hz : z.oneCell' = true) (n : Nat) : (Builtin.zeroCells z.cells n).toList = List.replicate n z := by
 have hc : z.cells = #[z] := by cases z <;> first | rfl | cases hz
 rw [hc]
 simp [Builtin.zeroCells]
 apply List.ext_getElem
 · simp
 · intro i h1 h2
   simp [Nat.mod_one]
theorem turns_clearS (ha : AR E A n a) (hr : Rep w0 E h w) {o : Oper} {c : Call} {x : AV} {t : TypeId} {tl : List TypeId} {us : List U} (ho : o.op = .call c) (hc : c.callee = .builtin .clear) (hx : allSome (evA A) c.args.toList = some [x]) (ht : c.argTypes.toList = t :: tl)
  (he : evClearS P h t x = some us) : Turns P w0 E a w o (.tup []) (apU h us) := by
 obtain ⟨v, hv, heq⟩ := args1 ha hx
 have h0 := ty0 ht
 unfold evClearS at he
 split at he
 · rename_i e k q m cc hu
   obtain ⟨b, c', hk, e1, e2⟩ := hv
   subst e1
   split at he
   · rename_i z ob hz hg
     split at he
     · rename_i hm
       cases hl : rowOf ob with
       | none => simp [hl] at he
       | some l =>
        simp only [hl, Option.bind_some] at he
        split at he
        · rename_i l' hov
          cases hre : reRow ob l' with
          | none => simp [hre] at he
          | some q' =>
           simp only [hre, Option.map_some, Option.some.injEq] at he
           subst he
           obtain ⟨zv, hzv, hzr⟩ := zero_ok (E := E) hz
           have hone : zv.oneCell' = true := V1.oneCell _ _ hzv
           obtain ⟨g1, g2⟩ := eff_write (P := P) (us := List.replicate m zv) hr hk hg hl hov hre (All2.replicate (show V1 E z zv from hzv) m)
           refine ⟨E, _, .tuple #[], Pre.refl E, g2, ⟨[], trivial, rfl⟩, .inl ?_⟩
           obtain ⟨m', rfl⟩ : ∃ m', m = m' + 1 := ⟨m - 1, by omega⟩
           simp [execOp, ho, resolve, hc, heq, invoke, builtin, Builtin.clear_, h0, run_underlying hu, hzr, zeros_eq zv hone, g1]
        · cases he
     · cases he
   · cases he
 · rename_i e y hu hne
   split at he
   · rename_i hl
     cases he
     obtain ⟨xb, cx, rfl⟩ := len0 hv hl
     refine ⟨E, w, .tuple #[], Pre.refl E, hr, ⟨[], trivial, rfl⟩, .inl ?_⟩
     cases xb <;> simp [execOp, ho, resolve, hc, heq, invoke, builtin, Builtin.clear_, h0, run_underlying hu]
   · cases he
 · cases he
theorem turns_sliceM (ha : AR E A n a) (hr : Rep w0 E h w) {o : Oper} {t : TypeId} {x : Operand} {lo : Option Operand} {hi : Operand} {p q r : AV} {us : List U} (ho : o.op = .slice t x lo (some hi) none) (hx : evA A x = some p) (hlo : lo.map (evA A) ≠ some none) (hhi : evA A hi = some q)
  (he : evSliceM P h t p (lo.map (evA A)).join q = some (r, us)) : Turns P w0 E a w o r (apU h us) := by
 have h1 := evA_ok ha x p hx
 have o1 := opt_ok ha hlo
 have o2 : OptOk E (some q) ((some hi).map a.eval) := .inr ⟨q, a.eval hi, rfl, rfl, evA_ok ha hi q hhi⟩
 generalize (lo.map (evA A)).join = lo' at he o1
 unfold evSliceM at he
 split at he
 · rename_i e k f m j hu
   obtain ⟨b, c, hk, hv, hle⟩ := h1
   split at he
   · rename_i z i i2 t' z' l hz hi1 hi2 hg
     split at he
     · rename_i hc
       obtain ⟨rfl, hz0, hab, hbl⟩ := hc
       cases he
       have hrow : Is E c w.heap[b]? (.row t' z' l) := (hr.obj k _ (lt_of_get hr hk) hg).is hk
       obtain ⟨cs, fr, g1, g2, g3, g4, g5⟩ := hrow
       have hlen := g5.length
       rw [List.length_take] at hlen
       have h6 : cs.toList.length = cs.size := Array.length_toList
       have hcap : i2 + j ≤ c := by
        have h3 : (i2 + j) * z' ≤ c * z' := by omega
        exact Nat.le_of_mul_le_mul_right h3 hz0
       have b1 := bnd_ok hi1 o1
       have b2 := bnd_ok hi2 o2
       have b3 : (((some hi).map a.eval) = none ∧ i2 = m) ∨ ∃ k, (some hi).map a.eval = some (.int k (i2 : Nat)) := by
        rcases b2 with ⟨e1, _⟩ | e1
        · cases e1
        · exact .inr e1
       have hr1 := run_bounds (P := P) (f := true) (cap := c - j) b1 b3 (by omega) (by omega) w
       have hne : ¬ (c - j = i) := by omega
       refine ⟨E, w, .slice (some ⟨b, f + i * z', none⟩) (i2 - i) (c - j - i), Pre.refl E, hr, ⟨b, c, hk, by simp only [capOf]; congr 1; omega, by simp only [capOf]; omega⟩, .inl ?_⟩
       have hr2 : (Instr.sliceBounds true m (c - j) (lo.map a.eval) (some (a.eval hi)) none).run P w = .ok (i, i2, c - j) w := hr1
       simp only [execOp, ho, hv, capOf, Instr.sliceAt, Instr.slice, Sem.run_bind, run_underlying hu, Result.andThen_ok, Option.map_some, Option.map_none, hr2, Sem.run_pure, run_size hz, if_neg hne, Addr.add_lit]
     · cases he
   · cases he
 · cases he
theorem ruX_ok : RuOk P w0 (ruX P) := by
 intro A n h o v us hx E a w ha hr
 unfold ruX at hx
 split at hx
 · rename_i c ho
   split at hx
   · rename_i s x t u hc hxs hts
     exact turns_append0 ha hr ho hc hxs hts hx
   · rename_i x t tl hc hxs hts
     cases hs : evClearS P h t x with
     | none => simp [hs] at hx
     | some us' =>
      simp only [hs, Option.map_some, Option.some.injEq, Prod.mk.injEq] at hx
      obtain ⟨rfl, rfl⟩ := hx
      exact turns_clearS ha hr ho hc hxs hts hs
   · cases hx
 · rename_i t x lo hi ho
   split at hx
   · cases hx
   · rename_i b h1 h2 h3 hne
     exact turns_sliceM ha hr ho h2 hne h3 hx
   · cases hx
 · cases hx
end
end Go.Ev
namespace Go.Ev
open Go Go.RowKit
section
variable {α β : Type}
def Tr.map (f : α → β) : Tr α → Tr β
 | .lf o => .lf (o.map f)
 | .nd l r => .nd (Tr.map f l) (Tr.map f r)
theorem Tr.get_map (f : α → β) : ∀ (d : Nat) (t : Tr α) (k : Nat), Tr.get d (Tr.map f t) k = (Tr.get d t k).map f
 | 0, .lf _, _ => rfl
 | 0, .nd _ _, _ => rfl
 | d + 1, .lf _, _ => rfl
 | d + 1, .nd l r, k => by
  show Tr.get (d + 1) (.nd (Tr.map f l) (Tr.map f r)) k = _
  rw [Tr.get_nd, Tr.get_nd, Tr.get_map f d l, Tr.get_map f d r]
  cases Nat.beq (k % 2) 0 <;> rfl
theorem Tr.map_set (f : α → β) : ∀ (d : Nat) (t : Tr α) (k : Nat) (o : Option α), Tr.map f (Tr.set d t k o) = Tr.set d (Tr.map f t) k (o.map f)
 | 0, _, _, _ => rfl
 | d + 1, .nd l r, k, o => by
  show _ = Tr.set (d + 1) (.nd (Tr.map f l) (Tr.map f r)) k (o.map f)
  rw [Tr.set_nd, Tr.set_nd]
  cases Nat.beq (k % 2) 0
  · show Tr.nd (Tr.map f l) (Tr.map f (Tr.set d r (k / 2) o)) = Tr.nd (Tr.map f l) (Tr.set d (Tr.map f r) (k / 2) (o.map f))
    rw [Tr.map_set f d]
  · show Tr.nd (Tr.map f (Tr.set d l (k / 2) o)) (Tr.map f r) = Tr.nd (Tr.set d (Tr.map f l) (k / 2) (o.map f)) (Tr.map f r)
    rw [Tr.map_set f d]
 | d + 1, .lf x, k, o => by
  show _ = Tr.set (d + 1) (.lf (x.map f)) k (o.map f)
  rw [Tr.set_lf, Tr.set_lf]
  cases Nat.beq (k % 2) 0
  · show Tr.nd (.lf none) (Tr.map f (Tr.set d (.lf none) (k / 2) o)) = _
    rw [Tr.map_set f d]
    rfl
  · show Tr.nd (Tr.map f (Tr.set d (.lf none) (k / 2) o)) (.lf none) = _
    rw [Tr.map_set f d]
    rfl
end
variable [Sy]
theorem den_den (x : A1) : x.den.den = x.den := by
 cases x with
 | y i =>
  show (Sy.v i).den = Sy.v i
  have := Sy.vb i
  cases h : Sy.v i <;> first | rfl | exact absurd h (this _)
 | _ => rfl
theorem oden_den (x : AO) : x.den.den = x.den := by
 cases x with
 | y i =>
  show (Sy.o i).den = Sy.o i
  have := Sy.ob i
  cases h : Sy.o i <;> first | rfl | exact absurd h (this _)
 | _ => rfl
def den2 : A2 → A2
 | .one x => .one x.den
 | .agg l => .agg (l.map A1.den)
def denV : AV → AV
 | .v x => .v (den2 x)
 | .tup l => .tup (l.map den2)
theorem All2.map_left {α β γ : Type} {R : α → β → Prop} {S : γ → β → Prop} {f : γ → α} (h : ∀ a b, S a b ↔ R (f a) b) : ∀ (l : List γ) (m : List β), All2 S l m ↔ All2 R (l.map f) m
 | [], [] => Iff.rfl
 | [], _ :: _ => Iff.rfl
 | _ :: _, [] => Iff.rfl
 | a :: l, b :: m => by
  show (S a b ∧ All2 S l m) ↔ (R (f a) b ∧ All2 R (l.map f) m)
  rw [h a b, All2.map_left h l m]
theorem V1_den (E : List Ent) (x : A1) (v : Value) : V1 E x v ↔ V1 E x.den v := by
 unfold V1
 rw [den_den]
theorem V2_den (E : List Ent) (x : A2) (v : Value) : V2 E x v ↔ V2 E (den2 x) v := by
 cases x with
 | one x => exact V1_den E x v
 | agg l =>
  show (∃ cs : List Value, All2 (V1 E) l cs ∧ v = .agg cs.toArray) ↔ (∃ cs : List Value, All2 (V1 E) (l.map A1.den) cs ∧ v = .agg cs.toArray)
  exact ⟨fun ⟨cs, h1, h2⟩ => ⟨cs, (All2.map_left (V1_den E) l cs).1 h1, h2⟩, fun ⟨cs, h1, h2⟩ => ⟨cs, (All2.map_left (V1_den E) l cs).2 h1, h2⟩⟩
theorem VV_den (E : List Ent) (x : AV) (v : Value) : VV E x v ↔ VV E (denV x) v := by
 cases x with
 | v x => exact V2_den E x v
 | tup l =>
  show (∃ vs : List Value, All2 (V2 E) l vs ∧ v = .tuple vs.toArray) ↔ (∃ vs : List Value, All2 (V2 E) (l.map den2) vs ∧ v = .tuple vs.toArray)
  exact ⟨fun ⟨cs, h1, h2⟩ => ⟨cs, (All2.map_left (V2_den E) l cs).1 h1, h2⟩, fun ⟨cs, h1, h2⟩ => ⟨cs, (All2.map_left (V2_den E) l cs).2 h1, h2⟩⟩
def denF (A : Fr) : Fr := Tr.map denV A
def denH (h : Hp) : Hp := ⟨Tr.map AO.den h.t, h.n⟩
theorem get_denH (h : Hp) (k : Nat) : (denH h).get k = (h.get k).map AO.den := Tr.get_map _ _ _ _
def denU : U → U
 | .put k o => .put k o.den
 | .new o => .new o.den
 | .del k => .del k
theorem apU_den : ∀ (us : List U) (h : Hp), denH (apU h us) = apU (denH h) (us.map denU)
 | [], _ => rfl
 | .put k o :: r, h => by
  show denH (apU (h.put k o) r) = apU ((denH h).put k o.den) (r.map denU)
  rw [apU_den r]
  congr 1
  show Hp.mk (Tr.map AO.den (Tr.set D h.t k (some o))) h.n = Hp.mk (Tr.set D (Tr.map AO.den h.t) k (some o.den)) h.n
  rw [Tr.map_set]
  rfl
 | .new o :: r, h => by
  show denH (apU (h.new o) r) = apU ((denH h).new o.den) (r.map denU)
  rw [apU_den r]
  congr 1
  show Hp.mk (Tr.map AO.den (Tr.set D h.t h.n (some o))) (h.n + 1) = Hp.mk (Tr.set D (Tr.map AO.den h.t) h.n (some o.den)) (h.n + 1)
  rw [Tr.map_set]
  rfl
 | .del k :: r, h => by
  show denH (apU (h.del k) r) = apU ((denH h).del k) (r.map denU)
  rw [apU_den r]
  congr 1
  show Hp.mk (Tr.map AO.den (Tr.set D h.t k none)) h.n = Hp.mk (Tr.set D (Tr.map AO.den h.t) k none) h.n
  rw [Tr.map_set]
  rfl
section
variable {E : List Ent} {A : Fr} {n : Nat} {a : Act} {P : Program} {w0 : Base} {w : World} {h : Hp}
theorem AR.den (ha : AR E A n a) : AR E (denF A) n a := ⟨ha.size, ha.le, ha.defers, fun t x ht hx => by
 have hx' : Tr.get DT (Tr.map denV A) t = some x := hx
 rw [Tr.get_map] at hx'
 cases hg : Tr.get DT A t with
 | none => simp [hg] at hx'
 | some z =>
  simp only [hg, Option.map_some, Option.some.injEq] at hx'
  subst hx'
  obtain ⟨v, h1, h2⟩ := ha.get t z ht hg
  exact ⟨v, h1, (VV_den E z v).1 h2⟩⟩
theorem OK_den {k : Nat} {o : AO} (hk : OK E w k o) (ho : ∀ f l, o.den = .clo f l → o = .clo f l) (ho2 : ∀ t x, o.den = .ifc t x → o = .ifc t x) : OK E w k o.den := by
 cases o with
 | y i =>
  obtain ⟨b, c, h1, h2⟩ := hk
  have h2' : Is0 E c w.heap[b]? (Sy.o i) := h2
  refine OK.of_is (b := b) (c := c) h1 ?_
  show Is0 E c w.heap[b]? ((Sy.o i).den)
  have hb : (Sy.o i).den = Sy.o i := oden_den (.y i)
  rw [hb]
  exact h2'
 | _ => exact hk
theorem Rep.den (hr : Rep w0 E h w) : Rep w0 E (denH h) w where
 below := hr.below
 len := hr.len
 bound := hr.bound
 obj := fun k o hk ho => by
  rw [get_denH] at ho
  cases hg : h.get k with
  | none => simp [hg] at ho
  | some q =>
   simp only [hg, Option.map_some, Option.some.injEq] at ho
   subst ho
   have h1 := hr.obj k q hk hg
   cases q with
   | y i =>
    obtain ⟨b, c, h1, h2⟩ := h1
    have h2' : Is0 E c w.heap[b]? (Sy.o i) := h2
    refine OK.of_is (b := b) (c := c) h1 ?_
    show Is0 E c w.heap[b]? ((Sy.o i).den)
    rw [show (Sy.o i).den = Sy.o i from oden_den (.y i)]
    exact h2'
   | _ => exact h1
 free := fun k hk hd => by
  rw [get_denH, hr.free k hk hd]
  rfl
 sep := fun k k' o o' b c c' hk hk' ho ho' h1 h2 => by
  rw [get_denH] at ho ho'
  cases hg : h.get k with
  | none => simp [hg] at ho
  | some q =>
   cases hg' : h.get k' with
   | none => simp [hg'] at ho'
   | some q' => exact hr.sep k k' q q' b c c' hk hk' hg hg' h1 h2
 old := fun k o b c hk ho he => by
  rw [get_denH] at ho
  cases hg : h.get k with
  | none => simp [hg] at ho
  | some q => exact hr.old k q b c hk hg he
/-- And back, where the letters are put back. -/
theorem Rep.undenH (hr : Rep w0 E (denH h) w) : Rep w0 E h w where
 below := hr.below
 len := hr.len
 bound := hr.bound
 obj := fun k o hk ho => by
  have h1 := hr.obj k o.den hk (by rw [get_denH, ho]; rfl)
  cases o with
  | y i =>
   have g1 := Sy.oc i
   have g2 := Sy.oi i
   have h1' : OK E w k (Sy.o i) := h1
   have hd : (Sy.o i).den = Sy.o i := oden_den (.y i)
   cases hs : Sy.o i with
   | clo f l => exact absurd hs (g1 f l)
   | ifc t x => exact absurd hs (g2 t x)
   | y j => exact absurd hs (Sy.ob i j)
   | _ =>
    rw [hs] at h1'
    obtain ⟨b, c, h2, h3⟩ := h1'
    refine ⟨b, c, h2, ?_⟩
    show Is0 E c w.heap[b]? (Sy.o i)
    rw [hs]
    exact h3
  | _ => exact h1
 free := fun k hk hd => by
  have := hr.free k hk hd
  rw [get_denH] at this
  cases hg : h.get k with
  | none => rfl
  | some q => simp [hg] at this
 sep := fun k k' o o' b c c' hk hk' ho ho' h1 h2 => hr.sep k k' o.den o'.den b c c' hk hk' (by rw [get_denH, ho]; rfl) (by rw [get_denH, ho']; rfl) h1 h2
 old := fun k o b c hk ho he => hr.old k o.den b c hk (by rw [get_denH, ho]; rfl) he
theorem gives_den {o : Oper} {r : AV} (ha : AR E A n a) (h : evPure P (denF A) o = some (denV r)) : Gives P E a o r := by
 obtain ⟨v, h1, h2⟩ := evPure_ok ha.den h
 exact ⟨v, (VV_den E r v).2 h1, h2⟩
theorem turns_pure {o : Oper} {r : AV} (ha : AR E A n a) (hr : Rep w0 E h w) (hp : evPure P (denF A) o = some (denV r)) : Turns P w0 E a w o r (apU h []) := by
 obtain ⟨v, h1, h2⟩ := gives_den ha hp
 exact ⟨E, w, v, Pre.refl E, hr, h1, .inl (h2 w)⟩
theorem turns_read {o : Oper} {r : AV} (ha : AR E A n a) (hr : Rep w0 E h w) (hp : evRead P (denF A) (denH h) o = some (denV r)) : Turns P w0 E a w o r (apU h []) := by
 obtain ⟨v, h1, h2⟩ := evRead_ok ha.den hr.den hp
 exact ⟨E, w, v, Pre.refl E, hr, (VV_den E r v).2 h1, .inl h2⟩
theorem turns_eff {o : Oper} {r : AV} {us : List U} (ha : AR E A n a) (hr : Rep w0 E h w) (hp : evEff P (denF A) (denH h) o = some (denV r, us.map denU)) : Turns P w0 E a w o r (apU h us) := by
 obtain ⟨E', w', v, h1, h2, h3, h4⟩ := evEff_ok ha.den hr.den hp
 refine ⟨E', w', v, h1, Rep.undenH ?_, (VV_den E' r v).2 h3, h4⟩
 rw [apU_den]
 exact h2
end
end Go.Ev
namespace Go.Ev
open Go Go.RowKit
/-- Another name. -/
def nmF (l : List (Nat × Nat)) (k : Nat) : Nat := match l with
 | [] => k
 | (a, b) :: r => bif Nat.beq a k then b else nmF r k
def letA (g : List (Nat × A1)) (a : Nat) : Option A1 := match g with
 | [] => none
 | (b, x) :: r => bif Nat.beq a b then some x else letA r a
section
variable (fl : List (Nat × Nat)) (N : Nat) (g : List (Nat × A1)) (ol : List (Nat × AO))
def nmB (k k' : Nat) : Bool := Nat.blt k N && Nat.beq (nmF fl k) k'
def capB : CapE → CapE → Bool
 | .ex a, .ex b => Nat.beq a b
 | .un a, .un b => Nat.beq a b
 | _, _ => false
/-- The one by the old names, the other by the new: (new, old). -/
def sim1 : A1 → A1 → Bool
 | .y a, x => decide (letA g a = some x)
 | .c 0, _ => true
 | .c (i + 1), .c j => Nat.beq (i + 1) j
 | .b x, .b y => x == y
 | .i k n, .i k' n' => decide (k = k') && decide (n = n')
 | .s x, .s y => eqL x y
 | .nilp, .nilp => true
 | .p k o, .p k' o' => nmB fl N k k' && Nat.beq o o'
 | .nils, .nils => true
 | .sl k o n c, .sl k' o' n' c' => nmB fl N k k' && Nat.beq o o' && Nat.beq n n' && capB c c'
 | .stl k o z a j, .stl k' o' z' a' j' => nmB fl N k k' && Nat.beq o o' && Nat.beq z z' && Nat.beq a a' && Nat.beq j j'
 | .nilm, .nilm => true
 | .m k, .m k' => nmB fl N k k'
 | .nili, .nili => true
 | .nilf, .nilf => true
 | .f a, .f b => Nat.beq a b
 | .clo k, .clo k' => nmB fl N k k'
 | .ifc t k, .ifc t' k' => Nat.beq t t' && nmB fl N k k'
 | _, _ => false
def simL {α β : Type} (p : α → β → Bool) : List α → List β → Bool
 | [], [] => true
 | a :: l, b :: m => p a b && simL p l m
 | _, _ => false
def sim2 : A2 → A2 → Bool
 | .one x, .one y => sim1 fl N g x y
 | .agg l, .agg m => simL (sim1 fl N g) l m
 | _, _ => false
def simE (a b : A1 × A2 × Nat) : Bool := sim1 fl N g a.1 b.1 && sim2 fl N g a.2.1 b.2.1 && Nat.beq a.2.2 b.2.2
def isBlk : AO → Bool
 | .clo _ _ => false
 | .ifc _ _ => false
 | _ => true
def simO : AO → AO → Bool
 | .y a, o => isBlk o && ol.any fun p => Nat.beq p.1 a && decide (p.2 = o)
 | .cells t l, .cells t' m => Nat.beq t t' && simL (sim1 fl N g) l m
 | .row t z l, .row t' z' m => Nat.beq t t' && Nat.beq z z' && simL (sim1 fl N g) l m
 | .map es c, .map fs d => simL (simE fl N g) es fs && Nat.beq c d
 | .mapx es, .map fs d => simL (fun (a : A1 × A2) (b : A1 × A2 × Nat) => sim1 fl N g a.1 b.1 && sim2 fl N g a.2 b.2.1) es fs
 | .mapx es, .mapx fs => simL (fun (a : A1 × A2) (b : A1 × A2) => sim1 fl N g a.1 b.1 && sim2 fl N g a.2 b.2) es fs
 | .clo f l, .clo f' m => Nat.beq f f' && simL (sim2 fl N g) l m
 | .ifc t x, .ifc t' y => Nat.beq t t' && sim2 fl N g x y
 | _, _ => false
/-- Each that is told of in the new is so in the old. -/
def simH (h2 h1 : Hp) : Bool := (List.range N).all fun k => match h2.get k with
 | none => true
 | some o => match h1.get (nmF fl k) with
   | some q => Nat.blt (nmF fl k) h1.n && simO fl N g ol o q
   | none => false
/-- The names that are told of, by the old names, are all different. -/
def nmsH (h2 : Hp) : List Nat := ((List.range N).filter fun k => (h2.get k).isSome).map (nmF fl)
def noDup : List Nat → Bool
 | [] => true
 | a :: l => !(l.any fun b => Nat.beq a b) && noDup l
end
theorem nmF_ok {l : List (Nat × Nat)} {k k' N : Nat} (h : nmB l N k k' = true) : k < N ∧ nmF l k = k' := by
 unfold nmB at h
 rw [Bool.and_eq_true] at h
 exact ⟨Nat.le_of_ble_eq_true h.1, Nat.eq_of_beq_eq_true h.2⟩
section
variable {fl : List (Nat × Nat)} {N : Nat} {g : List (Nat × A1)} {ol : List (Nat × AO)} {E1 E2 : List Ent} {S1 S2 : Sy}
/-- What the letters stand for, by the names. -/
def LetOk (S1 S2 : Sy) (E1 E2 : List Ent) (g : List (Nat × A1)) : Prop := (∀ i, S1.c i = S2.c i) ∧ ∀ (a : Nat) (x : A1), letA g a = some x → ∀ v, @V1 S1 E1 x v → @V1 S2 E2 (.y a) v
def NmOk (fl : List (Nat × Nat)) (N : Nat) (E1 E2 : List Ent) : Prop := ∀ k, k < N → E2[k]? = E1[nmF fl k]?
theorem capB_ok {c d : CapE} (h : capB c d = true) : c = d := by
 cases c <;> cases d <;> simp only [capB] at h <;> first | cases h | rw [Nat.eq_of_beq_eq_true h]
theorem sim1_ok (hn : NmOk fl N E1 E2) (hl : LetOk S1 S2 E1 E2 g) : ∀ (x y : A1), sim1 fl N g x y = true → ∀ v, @V1 S1 E1 y v → @V1 S2 E2 x v := by
 intro x y h v hv
 unfold sim1 at h
 split at h
 · rename_i a
   exact hl.2 a y (of_decide_eq_true h) v hv
 · exact @V1.oneCell S1 E1 y v hv
 · rename_i i j
   have h := Nat.eq_of_beq_eq_true h
   subst h
   have hv : v = S1.c i := hv
   rw [hl.1 i] at hv
   exact hv
 · rw [beq_iff_eq] at h
   subst h
   exact hv
 · rw [Bool.and_eq_true] at h
   obtain ⟨h1, h2⟩ := h
   have h1 := of_decide_eq_true h1
   have h2 := of_decide_eq_true h2
   subst h1; subst h2
   exact hv
 · rw [eqL_iff] at h
   subst h
   exact hv
 · exact hv
 · rw [Bool.and_eq_true] at h
   obtain ⟨h1, h2⟩ := h
   obtain ⟨h3, h4⟩ := nmF_ok h1
   have h2 := Nat.eq_of_beq_eq_true h2
   subst h2; subst h4
   obtain ⟨b, c, e1, e2⟩ := hv
   exact ⟨b, c, by rw [hn _ h3]; exact e1, e2⟩
 · exact hv
 · simp only [Bool.and_eq_true] at h
   obtain ⟨⟨⟨h1, h2⟩, h5⟩, h6⟩ := h
   obtain ⟨h3, h4⟩ := nmF_ok h1
   have h2 := Nat.eq_of_beq_eq_true h2
   have h5 := Nat.eq_of_beq_eq_true h5
   have h6 := capB_ok h6
   subst h2; subst h4; subst h5; subst h6
   obtain ⟨b, c, e1, e2⟩ := hv
   exact ⟨b, c, by rw [hn _ h3]; exact e1, e2⟩
 · simp only [Bool.and_eq_true] at h
   obtain ⟨⟨⟨⟨h1, h2⟩, h5⟩, h6⟩, h7⟩ := h
   obtain ⟨h3, h4⟩ := nmF_ok h1
   have h2 := Nat.eq_of_beq_eq_true h2
   have h5 := Nat.eq_of_beq_eq_true h5
   have h6 := Nat.eq_of_beq_eq_true h6
   have h7 := Nat.eq_of_beq_eq_true h7
   subst h2; subst h4; subst h5; subst h6; subst h7
   obtain ⟨b, c, e1, e2⟩ := hv
   exact ⟨b, c, by rw [hn _ h3]; exact e1, e2⟩
 · exact hv
 · obtain ⟨h3, h4⟩ := nmF_ok h
   subst h4
   obtain ⟨b, c, e1, e2⟩ := hv
   exact ⟨b, c, by rw [hn _ h3]; exact e1, e2⟩
 · exact hv
 · exact hv
 · have h := Nat.eq_of_beq_eq_true h
   subst h
   exact hv
 · obtain ⟨h3, h4⟩ := nmF_ok h
   subst h4
   obtain ⟨e1, e2⟩ := hv
   exact ⟨by rw [hn _ h3]; exact e1, e2⟩
 · rw [Bool.and_eq_true] at h
   obtain ⟨h1, h2⟩ := h
   obtain ⟨h3, h4⟩ := nmF_ok h2
   have h1 := Nat.eq_of_beq_eq_true h1
   subst h1; subst h4
   obtain ⟨e1, e2⟩ := hv
   exact ⟨by rw [hn _ h3]; exact e1, e2⟩
 · cases h
theorem simL_ok {α β γ : Type} {p : α → β → Bool} {R : β → γ → Prop} {S : α → γ → Prop} (hp : ∀ a b, p a b = true → ∀ v, R b v → S a v) : ∀ (l : List α) (m : List β) (vs : List γ), simL p l m = true → All2 R m vs → All2 S l vs
 | [], [], vs, _, h => by cases vs <;> exact h
 | a :: l, b :: m, [], h, hv => hv.elim
 | a :: l, b :: m, v :: vs, h, hv => by
  unfold simL at h
  rw [Bool.and_eq_true] at h
  exact ⟨hp a b h.1 v hv.1, simL_ok hp l m vs h.2 hv.2⟩
 | [], _ :: _, _, h, _ => by cases h
 | _ :: _, [], _, h, _ => by cases h
theorem simL_len {α β : Type} {p : α → β → Bool} : ∀ (l : List α) (m : List β), simL p l m = true → l.length = m.length
 | [], [], _ => rfl
 | _ :: l, _ :: m, h => by
  unfold simL at h
  rw [Bool.and_eq_true] at h
  simp [simL_len l m h.2]
 | [], _ :: _, h => by cases h
 | _ :: _, [], h => by cases h
theorem sim2_ok (hn : NmOk fl N E1 E2) (hl : LetOk S1 S2 E1 E2 g) (x y : A2) (h : sim2 fl N g x y = true) (v : Value) (hv : @V2 S1 E1 y v) : @V2 S2 E2 x v := by
 unfold sim2 at h
 split at h
 · exact sim1_ok hn hl _ _ h v hv
 · obtain ⟨cs, h1, h2⟩ := hv
   exact ⟨cs, simL_ok (sim1_ok hn hl) _ _ _ h h1, h2⟩
 · cases h
theorem simE_ok (hn : NmOk fl N E1 E2) (hl : LetOk S1 S2 E1 E2 g) (x y : A1 × A2 × Nat) (h : simE fl N g x y = true) (m : MapEntry) (hm : @ME S1 E1 y m) : @ME S2 E2 x m := by
 unfold simE at h
 simp only [Bool.and_eq_true] at h
 obtain ⟨⟨h1, h2⟩, h3⟩ := h
 exact ⟨sim1_ok hn hl _ _ h1 _ hm.1, sim2_ok hn hl _ _ h2 _ hm.2.1, hm.2.2.trans (Nat.eq_of_beq_eq_true h3).symm⟩
variable {w0 : Base} {w : World}
/-- What the objects that letters stand for hold. -/
def LetO (S1 S2 : Sy) (E1 E2 : List Ent) (w : World) (ol : List (Nat × AO)) : Prop := ∀ (p : Nat × AO), p ∈ ol → ∀ (b c : Nat), @Is S1 E1 c (w.heap[b]?) p.2 → @Is S2 E2 c (w.heap[b]?) (.y p.1)
theorem simO_ok (hn : NmOk fl N E1 E2) (hl : LetOk S1 S2 E1 E2 g) (ho : LetO S1 S2 E1 E2 w ol) {k : Nat} (hk : k < N) (x y : AO) (h : simO fl N g ol x y = true) (hy : @OK S1 E1 w (nmF fl k) y) : @OK S2 E2 w k x := by
 have hE := hn k hk
 unfold simO at h
 split at h
 · rename_i a
   rw [Bool.and_eq_true] at h
   obtain ⟨p, hp, h1⟩ := List.any_eq_true.1 h.2
   rw [Bool.and_eq_true] at h1
   have e1 := Nat.eq_of_beq_eq_true h1.1
   have e2 := of_decide_eq_true h1.2
   obtain ⟨bb, c, h2, h3⟩ : ∃ b c, E1[nmF fl k]? = some (.blk b c) ∧ @Is S1 E1 c w.heap[b]? y := by
    have hb := h.1
    cases y <;> first | (cases hb; done) | exact hy
   rw [← e2] at h3
   rw [← e1]
   exact ⟨bb, c, by rw [hE]; exact h2, ho p hp bb c h3⟩
 · rw [Bool.and_eq_true] at h
   have e1 := Nat.eq_of_beq_eq_true h.1
   subst e1
   obtain ⟨bb, c, h2, cs, fr, h3, h4, h5⟩ := hy
   exact ⟨bb, c, by rw [hE]; exact h2, cs, fr, h3, h4, simL_ok (sim1_ok hn hl) _ _ _ h.2 h5⟩
 · simp only [Bool.and_eq_true] at h
   obtain ⟨⟨h1, h2⟩, h3⟩ := h
   have e1 := Nat.eq_of_beq_eq_true h1
   have e2 := Nat.eq_of_beq_eq_true h2
   subst e1; subst e2
   obtain ⟨bb, c, g1, cs, fr, g2, g3, g4, g5, g6⟩ := hy
   refine ⟨bb, c, by rw [hE]; exact g1, cs, fr, g2, g3, g4, g5, ?_⟩
   rw [simL_len _ _ h3]
   exact simL_ok (sim1_ok hn hl) _ _ _ h3 g6
 · rw [Bool.and_eq_true] at h
   have e1 := Nat.eq_of_beq_eq_true h.2
   subst e1
   obtain ⟨bb, c, h2, ms, h3, h4⟩ := hy
   exact ⟨bb, c, by rw [hE]; exact h2, ms, h3, simL_ok (simE_ok hn hl) _ _ _ h.1 h4⟩
 · obtain ⟨bb, c, h2, ms, h3, h4⟩ := hy
   refine ⟨bb, c, by rw [hE]; exact h2, ms, _, h3, simL_ok (R := fun (b : A1 × A2 × Nat) m => @ME S1 E1 b m) (fun a b hab m hm => ?_) _ _ _ h h4⟩
   rw [Bool.and_eq_true] at hab
   exact ⟨sim1_ok hn hl _ _ hab.1 _ hm.1, sim2_ok hn hl _ _ hab.2 _ hm.2.1⟩
 · obtain ⟨bb, c, h2, ms, cl, h3, h4⟩ := hy
   refine ⟨bb, c, by rw [hE]; exact h2, ms, cl, h3, simL_ok (fun a b hab m hm => ?_) _ _ _ h h4⟩
   rw [Bool.and_eq_true] at hab
   exact ⟨sim1_ok hn hl _ _ hab.1 _ hm.1, sim2_ok hn hl _ _ hab.2 _ hm.2⟩
 · rw [Bool.and_eq_true] at h
   have e1 := Nat.eq_of_beq_eq_true h.1
   subst e1
   obtain ⟨cs, h2, h3⟩ := hy
   exact ⟨cs, by rw [hE]; exact h2, simL_ok (sim2_ok hn hl) _ _ _ h.2 h3⟩
 · rw [Bool.and_eq_true] at h
   have e1 := Nat.eq_of_beq_eq_true h.1
   subst e1
   obtain ⟨v, h2, h3⟩ := hy
   exact ⟨v, by rw [hE]; exact h2, sim2_ok hn hl _ _ h.2 _ h3⟩
 · cases h
theorem noDup_inj {f : Nat → Nat} : ∀ {l : List Nat}, noDup (l.map f) = true → ∀ a ∈ l, ∀ b ∈ l, f a = f b → a = b
 | [], _, a, ha, _, _, _ => by simp at ha
 | x :: l, h, a, ha, b, hb, he => by
  have h' : (!((l.map f).any fun b => Nat.beq (f x) b) && noDup (l.map f)) = true := h
  rw [Bool.and_eq_true, Bool.not_eq_true'] at h'
  have hno : ∀ c ∈ l, f x ≠ f c := fun c hc e => by
   have : ((l.map f).any fun b => Nat.beq (f x) b) = true := List.any_eq_true.2 ⟨f c, List.mem_map_of_mem hc, by rw [e]; simp⟩
   rw [this] at h'
   cases h'.1
  rcases List.mem_cons.1 ha with e1 | ha1 <;> rcases List.mem_cons.1 hb with e2 | hb1
  · rw [e1, e2]
  · rw [e1] at he
    exact absurd he (hno b hb1)
  · rw [e2] at he
    exact absurd he.symm (hno a ha1)
  · exact noDup_inj h'.2 a ha1 b hb1 he
/-- Memory by new names and new letters: what is told of is told of still. -/
theorem rep_rename {h1 h2 : Hp} (hr : @Rep S1 w0 E1 h1 w) (hlen : E2.length = h2.n) (hN : h2.n = N) (hb : N ≤ 2 ^ D) (hfree : ∀ k, N ≤ k → k < 2 ^ D → h2.get k = none)
  (hn : NmOk fl N E1 E2) (hl : LetOk S1 S2 E1 E2 g) (ho : LetO S1 S2 E1 E2 w ol) (hs : simH fl N g ol h2 h1 = true) (hd : noDup (nmsH fl N h2) = true) : @Rep S2 w0 E2 h2 w := by
 have hobj : ∀ k o, k < N → h2.get k = some o → ∃ q, h1.get (nmF fl k) = some q ∧ nmF fl k < h1.n ∧ simO fl N g ol o q = true := by
  intro k o hk hg
  have h3 := List.all_eq_true.1 hs k (List.mem_range.2 hk)
  simp only [hg] at h3
  cases hq : h1.get (nmF fl k) with
  | none => simp [hq] at h3
  | some q =>
   simp only [hq, Bool.and_eq_true] at h3
   exact ⟨q, rfl, Nat.le_of_ble_eq_true h3.1, h3.2⟩
 refine @Rep.mk S2 w0 E2 h2 w (@Rep.below S1 w0 E1 h1 w hr) hlen (by rw [hN]; exact hb) ?_ ?_ ?_ ?_
 · intro k o hk hg
   rw [hN] at hk
   obtain ⟨q, h3, h5, h4⟩ := hobj k o hk hg
   exact simO_ok hn hl ho hk o q h4 (@Rep.obj S1 w0 E1 h1 w hr _ q h5 h3)
 · intro k hk hkd
   rw [hN] at hk
   exact hfree k hk hkd
 · intro k k' o o' b c c' hk hk' hg hg' h3 h4
   rw [hN] at hk hk'
   obtain ⟨q, g1, g2, _⟩ := hobj k o hk hg
   obtain ⟨q', g1', g2', _⟩ := hobj k' o' hk' hg'
   rw [hn k hk] at h3
   rw [hn k' hk'] at h4
   have h5 := @Rep.sep S1 w0 E1 h1 w hr _ _ q q' b c c' g2 g2' g1 g1' h3 h4
   exact noDup_inj hd k (List.mem_filter.2 ⟨List.mem_range.2 hk, by rw [hg]; rfl⟩) k' (List.mem_filter.2 ⟨List.mem_range.2 hk', by rw [hg']; rfl⟩) h5
 · intro k o b c hk hg he
   rw [hN] at hk
   obtain ⟨q, g1, g2, _⟩ := hobj k o hk hg
   rw [hn k hk] at he
   exact @Rep.old S1 w0 E1 h1 w hr _ q b c g2 g1 he
end
end Go.Ev
namespace Go.Ev
open Go Go.RowKit
/-- The first entry that is the key's: where, and what. -/
def findX (k : A1) : List (A1 × A2) → Nat → Option (Option (Nat × A2))
 | [], _ => some none
 | e :: es, i => match sameKey k e.1 with
   | some true => some (some (i, e.2))
   | some false => findX k es (Nat.succ i)
   | none => none
def mapX (h : Hp) : AV → Option (Nat × List (A1 × A2))
 | .v (.one (.m k)) => match h.get k with
   | some (.mapx es) => some (k, es)
   | _ => none
 | _ => none
section
variable (P : Program)
def evLookupX (h : Hp) (t : TypeId) (x i : AV) (ok : Bool) : Option AV :=
 match P.underlying t, mapX h x, i with
 | some (.map kt e), some (_, es), .v (.one key) =>
  match keyOk (P.underlying kt) key, findX key es 0 with
  | true, some (some (_, v)) => some (if ok then .tup [v, .one (.b true)] else .v v)
  | true, some none => match zeroT P e with
    | some z => some (if ok then .tup [z, .one (.b false)] else .v z)
    | none => none
  | _, _ => none
 | _, _, _ => none
def evUpdateX (h : Hp) (t : TypeId) (x i v : AV) : Option (List U) :=
 match P.underlying t, mapX h x, i, v with
 | some (.map kt _), some (k, es), .v (.one key), .v w =>
  match keyOk (P.underlying kt) key, findX key es 0 with
  | true, some none => some [.put k (.mapx (es ++ [(key, w)]))]
  | true, some (some (i, _)) => some [.put k (.mapx (es.set i (key, w)))]
  | _, _ => none
 | _, _, _, _ => none
def evDeleteX (h : Hp) (t : TypeId) (x i : AV) : Option (List U) :=
 match P.underlying t, mapX h x, i with
 | some (.map kt _), some (k, es), .v (.one key) =>
  match keyOk (P.underlying kt) key, findX key es 0 with
  | true, some none => some [.put k (.mapx es)]
  | true, some (some (i, _)) => some [.put k (.mapx (es.eraseIdx i))]
  | _, _ => none
 | _, _, _ => none
def evLenX (h : Hp) (t : TypeId) (x : AV) : Option AV :=
 match P.underlying t, mapX h x with
 | some (.map _ _), some (_, es) => some (.v (.one (.i .i64 es.length)))
 | _, _ => none
def ruM (A : Fr) (h : Hp) (o : Oper) : Option (AV × List U) := match o.op with
 | .lookup t x i ok => (evA A x).bind fun a => (evA A i).bind fun b => (evLookupX P h t a b ok).map fun v => (v, [])
 | .mapUpdate t x i v => (evA A x).bind fun a => (evA A i).bind fun b => (evA A v).bind fun c => (evUpdateX P h t a b c).map fun us => (undefA, us)
 | .call c => match c.callee, allSome (evA A) c.args.toList, c.argTypes.toList with
   | .builtin .delete, some [x, k], t :: _ => (evDeleteX P h t x k).map fun us => (.tup [], us)
   | .builtin .len, some [x], t :: _ => (evLenX P h t x).map fun v => (v, [])
   | _, _, _ => none
 | _ => none
end
variable [Sy]
section
variable {E : List Ent} {A : Fr} {n : Nat} {a : Act} {P : Program} {w0 : Base} {w : World} {h : Hp}
abbrev MX (E : List Ent) (e : A1 × A2) (m : MapEntry) : Prop := V1 E e.1 m.key ∧ V2 E e.2 m.val
theorem mapx_of (hr : Rep w0 E h w) {k b c : Nat} {es : List (A1 × A2)} (hk : E[k]? = some (.blk b c)) (hq : h.get k = some (.mapx es)) : ∃ ms cl, w.heap[b]? = some (.map ms cl) ∧ All2 (MX E) es ms.toList :=
 (hr.obj k _ (lt_of_get hr hk) hq).is hk
theorem findXNow_ok {d : TypeDesc} {key : A1} {v : Value} (hv : V1 E key v) (hd : (∃ q j i, d = .int q ∧ v = .int j i ∧ key = .i j i) ∨ (d = .string ∧ ∃ s, v = .string s)) : ∀ (es : List (A1 × A2)) (ms : List MapEntry) (n : Nat) (r : Option (Nat × A2)), All2 (MX E) es ms → findX key es n = some r →
  (r = none ∧ Instr.findNow d v ms n = some none) ∨ ∃ i x u e m, r = some (n + i, x) ∧ V2 E x u ∧ Instr.findNow d v ms n = some (some (n + i, u)) ∧ es[i]? = some e ∧ ms[i]? = some m ∧ m.key = v
 | [], [], n, r, _, hf => by
  cases hf
  exact .inl ⟨rfl, rfl⟩
 | e :: es, m :: ms, n, r, hm, hf => by
  unfold findX at hf
  cases hs : sameKey key e.1 with
  | none => simp [hs] at hf
  | some b =>
   obtain ⟨h1, h2⟩ := sameKey_ok hv hm.1.1 hd hs
   cases b with
   | true =>
    simp only [hs, Option.some.injEq] at hf
    subst hf
    exact .inr ⟨0, e.2, m.val, e, m, rfl, hm.1.2, by simp [Instr.findNow, h1], rfl, rfl, h2 rfl⟩
   | false =>
    simp only [hs] at hf
    rcases findXNow_ok hv hd es ms (n + 1) r hm.2 hf with ⟨g1, g2⟩ | ⟨i, x, u, e', m', g1, g2, g3, g4, g5, g6⟩
    · exact .inl ⟨g1, by simp [Instr.findNow, h1, g2]⟩
    · refine .inr ⟨i + 1, x, u, e', m', by rw [g1, show n + 1 + i = n + (i + 1) by omega], g2, ?_, by simpa using g4, by simpa using g5, g6⟩
      rw [show n + (i + 1) = n + 1 + i by omega]
      simp [Instr.findNow, h1, g3]
theorem findX_ok {kt : TypeId} {key : A1} {v : Value} {es : List (A1 × A2)} {ms : List MapEntry} {r : Option (Nat × A2)} (hk : keyOk (P.underlying kt) key = true) (hv : V1 E key v) (hm : All2 (MX E) es ms) (hf : findX key es 0 = some r) :
  (r = none ∧ (Instr.findKey kt v ms).run P w = .ok none w) ∨ ∃ i x u e m, r = some (i, x) ∧ V2 E x u ∧ (Instr.findKey kt v ms).run P w = .ok (some (i, u)) w ∧ es[i]? = some e ∧ ms[i]? = some m ∧ m.key = v := by
 obtain ⟨d, hd, hcase⟩ := key_ok hk hv
 rcases findXNow_ok hv hcase es ms 0 r hm hf with ⟨h1, h2⟩ | ⟨i, x, u, e, m, h1, h2, h3, h4, h5, h6⟩
 · exact .inl ⟨h1, MapKept.run_findKey hd h2⟩
 · rw [Nat.zero_add] at h1 h3
   exact .inr ⟨i, x, u, e, m, h1, h2, MapKept.run_findKey hd h3, h4, h5, h6⟩
theorem mapX_ok {x : AV} {k : Nat} {es : List (A1 × A2)} (he : mapX h x = some (k, es)) : x = .v (.one (.m k)) ∧ h.get k = some (.mapx es) := by
 unfold mapX at he
 split at he
 · rename_i k'
   cases hg : h.get k' with
   | none => simp [hg] at he
   | some o =>
    cases o <;> simp only [hg] at he <;> first | (cases he; done) | skip
    injection he with he
    injection he with e1 e2
    subst e1; subst e2
    exact ⟨rfl, hg⟩
 · cases he
theorem turns_lookupX (ha : AR E A n a) (hr : Rep w0 E h w) {o : Oper} {t : TypeId} {x i : Operand} {ok : Bool} {p q r : AV} (ho : o.op = .lookup t x i ok) (hx : evA A x = some p) (hi : evA A i = some q) (he : evLookupX P h t p q ok = some r) : Turns P w0 E a w o r (apU h []) := by
 have h1 := evA_ok ha x p hx
 have h2 := evA_ok ha i q hi
 suffices hs : ∃ v, VV E r v ∧ (execOp a.eval o).run P w = .ok (.value v) w by
  obtain ⟨v, g1, g2⟩ := hs
  exact ⟨E, w, v, Pre.refl E, hr, g1, .inl g2⟩
 unfold evLookupX at he
 split at he
 · rename_i kt e k es key hu hmap
   obtain ⟨rfl, hg⟩ := mapX_ok hmap
   have h2 : V1 E key (a.eval i) := h2
   obtain ⟨b, c, hk, hv⟩ := h1
   obtain ⟨ms, cl, hb, hme⟩ := mapx_of hr hk hg
   split at he
   · rename_i i' y hko hf
     rcases findX_ok (w := w) hko h2 hme hf with ⟨h3, _⟩ | ⟨j, y', u, _, _, h3, hu2, hrun, _⟩
     · cases h3
     · cases h3
       have hc := check_ok (w := w) hko h2 ms.isEmpty
       cases he
       cases ok
       · exact ⟨u, hu2, by simp [execOp, ho, hv, Instr.lookup, run_underlying hu, MapKept.run_getObj_map hb, hc, hrun]⟩
       · exact ⟨.tuple #[u, .bool true], ⟨[u, .bool true], ⟨hu2, rfl, trivial⟩, rfl⟩, by simp [execOp, ho, hv, Instr.lookup, run_underlying hu, MapKept.run_getObj_map hb, hc, hrun]⟩
   · rename_i hko hf
     rcases findX_ok (w := w) hko h2 hme hf with ⟨_, hrun⟩ | ⟨j, y', u, _, _, h3, _⟩
     · split at he
       · rename_i z hz
         obtain ⟨u, hu2, hzr⟩ := zero_ok (E := E) hz
         have hc := check_ok (w := w) hko h2 ms.isEmpty
         cases he
         cases ok
         · exact ⟨u, hu2, by simp [execOp, ho, hv, Instr.lookup, run_underlying hu, MapKept.run_getObj_map hb, hc, hrun, hzr]⟩
         · exact ⟨.tuple #[u, .bool false], ⟨[u, .bool false], ⟨hu2, rfl, trivial⟩, rfl⟩, by simp [execOp, ho, hv, Instr.lookup, run_underlying hu, MapKept.run_getObj_map hb, hc, hrun, hzr]⟩
       · cases he
     · cases h3
   · cases he
 · cases he
theorem turns_updateX (ha : AR E A n a) (hr : Rep w0 E h w) {o : Oper} {t : TypeId} {m k x : Operand} {p q s : AV} {us : List U} (ho : o.op = .mapUpdate t m k x) (hm : evA A m = some p) (hk : evA A k = some q) (hx : evA A x = some s) (he : evUpdateX P h t p q s = some us) : Turns P w0 E a w o undefA (apU h us) := by
 have h1 := evA_ok ha m p hm
 have h2 := evA_ok ha k q hk
 have h3 := evA_ok ha x s hx
 unfold evUpdateX at he
 split at he
 · rename_i kt e j es key y hu hmap
   obtain ⟨rfl, hg⟩ := mapX_ok hmap
   obtain ⟨b, c, hb, hv⟩ := h1
   have h2 : V1 E key (a.eval k) := h2
   obtain ⟨ms, cl, hob, hme⟩ := mapx_of hr hb hg
   split at he
   · rename_i hko hf
     cases he
     rcases findX_ok (w := w) hko h2 hme hf with ⟨_, hrun⟩ | ⟨j, y', u, _, _, h4, _⟩
     · have hc := check_ok (w := w) hko h2 false
       obtain ⟨g1, g2⟩ := eff_set (P := P) hr hb hg hob (fun _ _ _ => by simp) (x' := .map (ms.push { key := a.eval k, val := a.eval x, born := cl }) (cl + 1)) (q' := .mapx (es ++ [(key, y)])) ⟨_, _, rfl, by
        rw [Array.toList_push]
        exact hme.append ⟨⟨h2, h3⟩, trivial⟩⟩
       refine ⟨E, _, undef, Pre.refl E, g2, undef_ok, .inr ⟨?_, rfl⟩⟩
       simp only [execOp, ho, hv, Instr.mapUpdate, Sem.run_bind, Sem.run_pure, Result.andThen_ok, run_underlying hu, MapKept.run_getObj_map hob, hc, hrun, g1]
     · cases h4
   · rename_i i z hko hf
     rcases findX_ok (w := w) hko h2 hme hf with ⟨h4, _⟩ | ⟨j', y', u, e0, m0, h4, _, hrun, hei, hmi, hkey⟩
     · cases h4
     · injection h4 with h4
       injection h4 with h4 h5
       subst h4
       cases he
       have hc := check_ok (w := w) hko h2 false
       have hmi2 : ms[i]? = some m0 := by rw [← Array.getElem?_toList]; exact hmi
       have hsame : Instr.sameBits 10000 m0.key (a.eval k) = true := by
        rw [hkey]
        obtain ⟨_, _, ⟨_, j', i', _, hvv, _⟩ | ⟨_, s', hvv⟩⟩ := key_ok hko h2
        · rw [hvv]
          simp [Instr.sameBits]
        · rw [hvv]
          show (s' == s') = true
          rw [beq_toListBytes]
          simp
       obtain ⟨g1, g2⟩ := eff_set (P := P) hr hb hg hob (fun _ _ _ => by simp) (x' := .map (ms.modify i fun e => { e with key := a.eval k, val := a.eval x }) cl) (q' := .mapx (es.set i (key, y))) ⟨_, _, rfl, by
        have hlt : i < ms.toList.length := (List.getElem?_eq_some_iff.1 hmi).1
        have hmod : (ms.modify i fun e => { e with key := a.eval k, val := a.eval x }).toList = ms.toList.set i { m0 with key := a.eval k, val := a.eval x } := by
         rw [Array.toList_modify]
         apply List.ext_getElem?
         intro j
         rw [List.getElem?_modify, List.getElem?_set]
         by_cases hij : i = j
         · subst hij
           rw [hmi]
           have hlt' : i < ms.size := by rw [← Array.length_toList]; exact hlt
           simp [hlt']
         · simp [hij]
        rw [hmod]
        exact hme.set i _ _ ⟨h2, h3⟩⟩
       refine ⟨E, _, undef, Pre.refl E, g2, undef_ok, .inr ⟨?_, rfl⟩⟩
       simp only [execOp, ho, hv, Instr.mapUpdate, Sem.run_bind, Sem.run_pure, Result.andThen_ok, run_underlying hu, MapKept.run_getObj_map hob, hc, hrun, hmi2, Option.map_some, Option.getD_some, Instr.keyThatStays, hsame, if_true, g1]
   · cases he
 · cases he
theorem turns_deleteX (ha : AR E A n a) (hr : Rep w0 E h w) {o : Oper} {c : Call} {x y : AV} {t : TypeId} {tl : List TypeId} {us : List U} (ho : o.op = .call c) (hc : c.callee = .builtin .delete) (hx : allSome (evA A) c.args.toList = some [x, y]) (ht : c.argTypes.toList = t :: tl)
  (he : evDeleteX P h t x y = some us) : Turns P w0 E a w o (.tup []) (apU h us) := by
 obtain ⟨v, u, hv, hu', heq⟩ := args2 ha hx
 have h0 := ty0 ht
 unfold evDeleteX at he
 split at he
 · rename_i kt e k es key hu hmap
   obtain ⟨rfl, hg⟩ := mapX_ok hmap
   obtain ⟨b, c', hk, hv⟩ := hv
   have h2 : V1 E key u := hu'
   obtain ⟨ms, cl, hob, hme⟩ := mapx_of hr hk hg
   split at he
   · rename_i hko hf
     cases he
     have hck := check_ok (w := w) hko h2 ms.isEmpty
     obtain ⟨g1, g2⟩ := eff_set (P := P) hr hk hg hob (fun _ _ _ => by simp) (x' := .map ms cl) (q' := .mapx es) ⟨_, _, rfl, hme⟩
     rcases findX_ok (w := w) hko h2 hme hf with ⟨_, hrun⟩ | ⟨_, _, _, _, _, h4, _⟩
     · refine ⟨E, _, .tuple #[], Pre.refl E, g2, ⟨[], trivial, rfl⟩, .inl ?_⟩
       subst hv
       simp [execOp, ho, resolve, hc, heq, invoke, builtin, Builtin.delete_, h0, run_underlying hu, MapKept.run_getObj_map hob, hck, hrun, g1]
     · cases h4
   · rename_i i z hko hf
     cases he
     have hck := check_ok (w := w) hko h2 ms.isEmpty
     rcases findX_ok (w := w) hko h2 hme hf with ⟨h4, _⟩ | ⟨j, y', u', e0, m0, h4, _, hrun, hei, hmi, hkey⟩
     · cases h4
     · injection h4 with h4
       injection h4 with h4 h5
       subst h4
       obtain ⟨g1, g2⟩ := eff_set (P := P) hr hk hg hob (fun _ _ _ => by simp) (x' := .map (ms.eraseIdxIfInBounds i) cl) (q' := .mapx (es.eraseIdx i)) ⟨_, _, rfl, by
        have : (ms.eraseIdxIfInBounds i).toList = ms.toList.eraseIdx i := by
         have hlt : i < ms.size := by rw [← Array.length_toList]; exact (List.getElem?_eq_some_iff.1 hmi).1
         rw [Array.eraseIdxIfInBounds, dif_pos hlt, Array.toList_eraseIdx]
        rw [this]
        exact hme.eraseIdx i⟩
       refine ⟨E, _, .tuple #[], Pre.refl E, g2, ⟨[], trivial, rfl⟩, .inl ?_⟩
       subst hv
       simp [execOp, ho, resolve, hc, heq, invoke, builtin, Builtin.delete_, h0, run_underlying hu, MapKept.run_getObj_map hob, hck, hrun, g1]
   · cases he
 · cases he
theorem turns_lenX (ha : AR E A n a) (hr : Rep w0 E h w) {o : Oper} {c : Call} {x r : AV} {t : TypeId} {tl : List TypeId} (ho : o.op = .call c) (hc : c.callee = .builtin .len) (hx : allSome (evA A) c.args.toList = some [x]) (ht : c.argTypes.toList = t :: tl)
  (he : evLenX P h t x = some r) : Turns P w0 E a w o r (apU h []) := by
 obtain ⟨v, hv, heq⟩ := args1 ha hx
 have h0 := ty0 ht
 unfold evLenX at he
 split at he
 · rename_i kt e k es hu hmap
   obtain ⟨rfl, hg⟩ := mapX_ok hmap
   obtain ⟨b, c', hk, hv⟩ := hv
   obtain ⟨ms, cl, hob, hme⟩ := mapx_of hr hk hg
   cases he
   have hlen : es.length = ms.size := hme.length.trans Array.length_toList
   refine ⟨E, w, .int .i64 (es.length : Nat), Pre.refl E, hr, rfl, .inl ?_⟩
   subst hv
   simp [execOp, ho, resolve, hc, heq, invoke, builtin, Builtin.len_, h0, run_underlying hu, MapKept.run_getObj_map hob, goInt, hlen]
 · cases he
theorem ruM_ok : RuOk P w0 (ruM P) := by
 intro A n h o v us hx E a w ha hr
 unfold ruM at hx
 split at hx
 · rename_i t x i ok ho
   cases h1 : evA A x with
   | none => simp [h1] at hx
   | some p =>
    cases h2 : evA A i with
    | none => simp [h1, h2] at hx
    | some q =>
     simp only [h1, h2, Option.bind_some] at hx
     cases h3 : evLookupX P h t p q ok with
     | none => simp [h3] at hx
     | some r =>
      simp only [h3, Option.map_some, Option.some.injEq, Prod.mk.injEq] at hx
      obtain ⟨rfl, rfl⟩ := hx
      exact turns_lookupX ha hr ho h1 h2 h3
 · rename_i t x i y ho
   cases h1 : evA A x with
   | none => simp [h1] at hx
   | some p =>
    cases h2 : evA A i with
    | none => simp [h1, h2] at hx
    | some q =>
     cases h4 : evA A y with
     | none => simp [h1, h2, h4] at hx
     | some s =>
      simp only [h1, h2, h4, Option.bind_some] at hx
      cases h3 : evUpdateX P h t p q s with
      | none => simp [h3] at hx
      | some r =>
       simp only [h3, Option.map_some, Option.some.injEq, Prod.mk.injEq] at hx
       obtain ⟨rfl, rfl⟩ := hx
       exact turns_updateX ha hr ho h1 h2 h4 h3
 · rename_i c ho
   split at hx
   · rename_i x k t tl hc hxs hts
     cases h3 : evDeleteX P h t x k with
     | none => simp [h3] at hx
     | some r =>
      simp only [h3, Option.map_some, Option.some.injEq, Prod.mk.injEq] at hx
      obtain ⟨rfl, rfl⟩ := hx
      exact turns_deleteX ha hr ho hc hxs hts h3
   · rename_i x t tl hc hxs hts
     cases h3 : evLenX P h t x with
     | none => simp [h3] at hx
     | some r =>
      simp only [h3, Option.map_some, Option.some.injEq, Prod.mk.injEq] at hx
      obtain ⟨rfl, rfl⟩ := hx
      exact turns_lenX ha hr ho hc hxs hts h3
   · cases hx
 · cases hx
end
end Go.Ev
