/- The reckoner is right: what reads no memory, second part. -/
import Derived.Test.YtbmdocjeepnhmaaGreatDoorExB0
set_option linter.unusedVariables false
set_option linter.unusedSimpArgs false
set_option linter.unusedSectionVars false
namespace Go.Ev
open Go Go.RowKit
variable [Sy]
section
variable {E : List Ent} {A : Fr} {n : Nat} {a : Act} {P : Program}
theorem evBin_eq {op : BinOp} {t : TypeId} {p q : A1} {r : AV} (h : evBin P op t (.v (.one p)) (.v (.one q)) = some r) (h1 : ∀ k k' x y, p = .i k x → q = .i k' y → False) (h2 : ∀ x y, p = .s x → q = .s y → False) :
  ∃ z, evEq P t p q = some z ∧ ((op = .eql ∧ r = .v (.one (.b z))) ∨ (op = .neq ∧ r = .v (.one (.b (!z))))) := by
 unfold evBin at h
 split at h
 · rename_i e1 e2
   cases e1; cases e2
   exact (h1 _ _ _ _ rfl rfl).elim
 · rename_i e1 e2
   cases e1; cases e2
   exact (h2 _ _ rfl rfl).elim
 · rename_i e1 e2
   cases e1; cases e2
   split at h
   · rename_i z hz
     cases h
     exact ⟨z, hz, .inl ⟨rfl, rfl⟩⟩
   · rename_i z hz
     cases h
     exact ⟨z, hz, .inr ⟨rfl, rfl⟩⟩
   · cases h
 · cases h
theorem gives_bin (hr : AR E A n a) {o : Oper} {op : BinOp} {t : TypeId} {x y : Operand} {z : Bool} {p q r : AV} (ho : ∃ c, o.op = .binOp op t x y c) (hx : evA A x = some p) (hy : evA A y = some q) (h : evBin P op t p q = some r) : Gives P E a o r := by
 obtain ⟨c, ho⟩ := ho
 have h1 := evA_ok hr x p hx
 have h2 := evA_ok hr y q hy
 have go : ∀ v, VV E r v → (∀ w, (eqGuard op t x y (a.eval x) (a.eval y)).run P w = .ok () w) → (∀ w, (binOp op t (a.eval x) (a.eval y)).run P w = .ok v w) → Gives P E a o r := by
  intro v hv hg hb
  exact ⟨v, hv, fun w => by simp only [execOp, ho, Sem.run_bind, hg, hb, Result.andThen_ok, Sem.run_pure]⟩
 rcases p with (p | l) | l
 · rcases q with (q | m) | m
   · by_cases hi : ∃ k k' i j, p = .i k i ∧ q = .i k' j
     · obtain ⟨k, k', i, j, rfl, rfl⟩ := hi
       have e1 := VV.int h1
       have e2 := VV.int h2
       obtain ⟨v, hv, hb⟩ := bin_int (E := E) h
       rw [e1, e2] at go
       exact go v hv (fun w => by rw [eqGuard_at_int]; rfl) hb
     · by_cases hs : ∃ i j, p = .s i ∧ q = .s j
       · obtain ⟨i, j, rfl, rfl⟩ := hs
         obtain ⟨e1, b1⟩ := VV.str h1
         obtain ⟨e2, b2⟩ := VV.str h2
         obtain ⟨v, hv, hb⟩ := bin_str (E := E) b1 b2 h
         rw [e1, e2] at go
         exact go v hv (fun w => by rw [eqGuard_at_string]; rfl) hb
       · obtain ⟨z, hz, hop⟩ := evBin_eq h (fun k k' i j e1 e2 => hi ⟨k, k', i, j, e1, e2⟩) (fun i j e1 e2 => hs ⟨i, j, e1, e2⟩)
         have hv1 : V1 E p (a.eval x) := h1
         have hv2 : V1 E q (a.eval y) := h2
         obtain ⟨g1, g2⟩ := eq_not_nil hz hv1 hv2
         rcases hop with ⟨rfl, rfl⟩ | ⟨rfl, rfl⟩
         · exact go (.bool z) rfl (fun w => eqGuard_run g1 g2 w) fun w => (bin_eq hz hv1 hv2 w).1
         · exact go (.bool (!z)) rfl (fun w => eqGuard_run g1 g2 w) fun w => (bin_eq hz hv1 hv2 w).2
   · exact absurd h (by simp [evBin])
   · exact absurd h (by simp [evBin])
 · exact absurd h (by simp [evBin])
 · exact absurd h (by simp [evBin])
theorem gives_bin_nil (hr : AR E A n a) {o : Oper} {op : BinOp} {t : TypeId} {x y : Operand} {ms} {z : Bool} (ho : ∃ c, o.op = .binOp op t x y c) (hx : evA A x = some (.v (.one .nili))) (hy : evA A y = some (.v (.one .nili)))
  (hc : (Region.isConst x || Region.isConst y) = true) (hu : P.underlying t = some (.interface ms)) (hop : (op = .eql ∧ z = true) ∨ (op = .neq ∧ z = false)) : Gives P E a o (.v (.one (.b z))) := by
 obtain ⟨c, ho⟩ := ho
 have h1 : a.eval x = .nilIface := evA_ok hr x _ hx
 have h2 : a.eval y = .nilIface := evA_ok hr y _ hy
 have hg : eqGuard op t x y .nilIface .nilIface = pure () := by
  cases x <;> cases y <;> first
  | (rw [eqGuard_nil_constR]; done)
  | (rw [eqGuard_nil_constL]; done)
  | (simp [Region.isConst] at hc; done)
 have key : ∀ w, (Op.equal t .nilIface .nilIface).run P w = .ok true w := fun w => equal_run (fun w => by
  unfold Op.equalIn
  simp only [Sem.run_bind, run_underlying hu]
  rfl) w
 refine ⟨.bool z, rfl, fun w => ?_⟩
 rcases hop with ⟨rfl, rfl⟩ | ⟨rfl, rfl⟩ <;> simp only [execOp, ho, h1, h2, hg, binOp, Sem.run_bind, key, Result.andThen_ok, Sem.run_pure, Bool.not_true]
/-! ### Tables -/
theorem run_ty {t : TypeId} {i : TypeInfo} (h : P.info? t = some i) (w : World) : (typeInfo t).run P w = .ok i w := by simp [typeInfo, h]
theorem run_size {t : TypeId} {z : Nat} (h : sizeT P t = some z) (w : World) : (sizeOf t).run P w = .ok z w := by
 unfold sizeT at h
 cases hi : P.info? t with
 | none => rw [hi] at h; cases h
 | some i =>
  rw [hi] at h
  cases h
  simp only [sizeOf, Sem.run_bind, run_ty hi, Result.andThen_ok, Sem.run_pure]
theorem size_info {t : TypeId} {z : Nat} (h : sizeT P t = some z) : (P.info? t).map (·.size) = some z := h
theorem run_agg {t : TypeId} {b : Bool} (h : isAggT P t = some b) (w : World) : (isAgg t).run P w = .ok b w := by
 unfold isAggT at h
 cases hi : P.underlying t with
 | none => rw [hi] at h; cases h
 | some d =>
  rw [hi] at h
  cases d <;> (cases h; simp [isAgg, run_underlying hi])
theorem zero_ok {t : TypeId} {z : A2} (h : zeroT P t = some z) : ∃ v, V2 E z v ∧ ∀ w, (zeroValue t).run P w = .ok v w := by
 unfold zeroT at h
 cases hi : P.info? t with
 | none => rw [hi] at h; cases h
 | some i =>
  rw [hi] at h
  cases hz : i.zero with
  | none => simp [hz] at h
  | some v =>
   have h2 : asA2 v = some z := by simpa [hz] using h
   refine ⟨v, asA2_ok v z h2, fun w => ?_⟩
   simp only [zeroValue, Sem.run_bind, run_ty hi, Result.andThen_ok, hz, Sem.run_pure]
theorem elem_ok {t e : TypeId} (h : elemT P t = some e) : P.underlying t = some (.slice e) := by
 unfold elemT at h
 split at h
 · cases h; assumption
 · cases h
/-! ### Parts -/
theorem V2.cells {x : A2} {v : Value} (h : V2 E x v) : All2 (V1 E) x.cells v.cells.toList := by
 cases x with
 | one x =>
  have h1 : V1 E x v := h
  have h2 := V1.oneCell x v h1
  have : v.cells = #[v] := by cases v <;> first | rfl | cases h2
  rw [this]
  exact ⟨h1, trivial⟩
 | agg l =>
  obtain ⟨cs, hc, rfl⟩ := h
  exact hc
theorem seg_ok {l m : List A1} {o k : Nat} (h : seg l o k = some m) : o + k ≤ l.length ∧ m = (l.drop o).take k := by
 unfold seg at h
 split at h
 · cases h
   exact ⟨by assumption, rfl⟩
 · cases h
theorem part_agg {t : TypeId} {l m : List A1} {cs : List Value} {o k : Nat} (hl : All2 (V1 E) l cs) (ha : isAggT P t = some true) (hs : sizeT P t = some k) (h : seg l o k = some m) : ∃ v, V2 E (.agg m) v ∧ ∀ w, (part t cs.toArray o).run P w = .ok v w := by
 obtain ⟨h1, rfl⟩ := seg_ok h
 refine ⟨.agg (cs.toArray.extract o (o + k)), ⟨(cs.drop o).take k, (hl.drop o).take k, ?_⟩, fun w => ?_⟩
 · congr 1
   apply Array.ext'
   simp
 · simp only [part, Sem.run_bind, run_agg ha, run_size hs, Result.andThen_ok, if_pos, Sem.run_pure]
theorem part_one {t : TypeId} {l : List A1} {x : A1} {cs : List Value} {o : Nat} (hl : All2 (V1 E) l cs) (ha : isAggT P t = some false) (h : l[o]? = some x) : ∃ v, V1 E x v ∧ ∀ w, (part t cs.toArray o).run P w = .ok v w := by
 obtain ⟨v, hv, hvv⟩ := hl.get o x h
 refine ⟨v, hvv, fun w => ?_⟩
 simp [part, run_agg ha, hv]
theorem fieldOff_ok {t : TypeId} {f o : Nat} {ty : TypeId} (h : fieldOff P t f = some (o, ty)) : ∃ fs x, P.underlying t = some (.struct fs) ∧ fs[f]? = some x ∧ x.offset = o ∧ x.type = ty := by
 unfold fieldOff at h
 split at h
 · rename_i fs hu
   cases hx : fs[f]? with
   | none => rw [hx] at h; cases h
   | some x =>
    rw [hx] at h
    cases h
    exact ⟨fs, x, hu, hx, rfl, rfl⟩
 · cases h
theorem gives_field (hr : AR E A n a) {o : Oper} {t : TypeId} {x : Operand} {f : Nat} {p r : AV} (ho : o.op = .field t x f) (hx : evA A x = some p) (h : evField P t p f = some r) : Gives P E a o r := by
 have h1 := evA_ok hr x p hx
 unfold evField at h
 split at h
 · rename_i o' ty l hf
   obtain ⟨fs, y, hu, hy, rfl, rfl⟩ := fieldOff_ok hf
   obtain ⟨cs, hcs, he⟩ := h1
   split at h
   · rename_i k ha hs
     cases hm : seg l y.offset k with
     | none => rw [hm] at h; cases h
     | some m =>
      rw [hm] at h
      cases h
      obtain ⟨v, hv, hrun⟩ := part_agg hcs ha hs hm
      exact ⟨v, hv, fun w => by simp [execOp, ho, he, Instr.field, run_underlying hu, hy, asAgg, hrun]⟩
   · cases h
 · cases h
theorem gives_fieldAddr (hr : AR E A n a) {o : Oper} {s : TypeId} {x : Operand} {f k q d m : Nat} {ty : TypeId} (ho : o.op = .fieldAddr s x f) (hx : evA A x = some (.v (.one (.p k q)))) (hf : fieldOff P s f = some (d, ty)) (hs : sizeT P ty = some (m + 1)) : Gives P E a o (.v (.one (.p k (q + d)))) := by
 obtain ⟨b, c, hk, he⟩ := evA_ok hr x _ hx
 obtain ⟨fs, y, hu, hy, rfl, rfl⟩ := fieldOff_ok hf
 refine ⟨.pointer (some ⟨b, q + y.offset, none⟩), ⟨b, c, hk, rfl⟩, fun w => ?_⟩
 have hne : ¬ (m + 1 = 0) := by omega
 simp only [execOp, ho, he, Instr.fieldAt, Sem.run_bind, run_underlying hu, Result.andThen_ok, hy, Instr.sureAddr, Sem.run_pure, fieldPlace, run_size hs, if_neg hne, Addr.add_lit]
theorem intOf_ok {x : AV} {i : Int} {v : Value} (h : intOf x = some i) (hv : VV E x v) : ∃ k, v = .int k i := by
 unfold intOf at h
 split at h
 · cases h
   exact ⟨_, hv⟩
 · cases h
theorem gives_indexAddr (hr : AR E A n a) {o : Oper} {t : TypeId} {x i : Operand} {p q r : AV} (ho : o.op = .indexAddr t x i) (hx : evA A x = some p) (hi : evA A i = some q) (h : evIndexAddr P t p q = some r) : Gives P E a o r := by
 have h1 := evA_ok hr x p hx
 have h2 := evA_ok hr i q hi
 unfold evIndexAddr at h
 split at h
 · rename_i e k q' n' c j hu hj
   obtain ⟨kk, hk⟩ := intOf_ok hj h2
   obtain ⟨b, c', hb, he, hle⟩ := h1
   split at h
   · rename_i hin
     cases hs : sizeT P e with
     | none => rw [hs] at h; cases h
     | some z =>
      rw [hs] at h
      cases h
      refine ⟨.pointer (some ⟨b, q' + j.toNat * z, none⟩), ⟨b, c', hb, rfl⟩, fun w => ?_⟩
      have hin' : 0 ≤ j ∧ j < (n' : Int) := hin
      simp [execOp, ho, he, hk, Instr.indexAt, asIntOf, run_underlying hu, run_size hs, hin', Addr.add_lit]
   · cases h
 · rename_i n' e k q' j hu hj
   obtain ⟨kk, hk⟩ := intOf_ok hj h2
   obtain ⟨b, c', hb, he⟩ := h1
   split at h
   · rename_i hin
     cases hs : sizeT P e with
     | none => rw [hs] at h; cases h
     | some z =>
      rw [hs] at h
      cases h
      refine ⟨.pointer (some ⟨b, q' + j.toNat * z, none⟩), ⟨b, c', hb, rfl⟩, fun w => ?_⟩
      have hin' : 0 ≤ j ∧ j < (n' : Int) := hin
      simp [execOp, ho, he, hk, Instr.indexAt, asIntOf, run_underlying hu, run_size hs, hin', Addr.add_lit, Instr.sureAddr]
   · cases h
 · cases h

theorem gives_index (hr : AR E A n a) {o : Oper} {t : TypeId} {x i : Operand} {p q r : AV} (ho : o.op = .index t x i) (hx : evA A x = some p) (hi : evA A i = some q) (h : evIndex P t p q = some r) : Gives P E a o r := by
 have h1 := evA_ok hr x p hx
 have h2 := evA_ok hr i q hi
 unfold evIndex at h
 split at h
 · rename_i l j hu hj
   obtain ⟨kk, hk⟩ := intOf_ok hj h2
   obtain ⟨he, hb⟩ := VV.str h1
   split at h
   · rename_i h0
     cases hm : l[j.toNat]? with
     | none => rw [hm] at h; cases h
     | some c =>
      rw [hm] at h
      cases h
      refine ⟨.int .u8 (c : Nat), rfl, fun w => ?_⟩
      have hc : c < 256 := hb c (List.mem_of_getElem? hm)
      have hb2 : (bytes l)[j.toNat]? = some (UInt8.ofNat c) := by
       have hlt : j.toNat < l.length := (List.getElem?_eq_some_iff.1 hm).1
       have hg : l[j.toNat] = c := (List.getElem?_eq_some_iff.1 hm).2
       rw [ByteArray.getElem?_lt' _ _ (by rw [bytes_size]; exact hlt)]
       congr 1
       show ((l.map UInt8.ofNat).toArray)[j.toNat]'(by simpa using hlt) = _
       simp [hg]
      have ht : (UInt8.ofNat c).toNat = c := by simp; omega
      simp [execOp, ho, he, hk, Instr.index, asIntOf, run_underlying hu, h0, hb2, Nat.mod_eq_of_lt hc]
   · cases h
 · rename_i n' e l j hu hj
   obtain ⟨kk, hk⟩ := intOf_ok hj h2
   obtain ⟨cs, hcs, he⟩ := h1
   split at h
   · rename_i hin
     split at h
     · rename_i z ha hz
       cases hm : l[j.toNat * z]? with
       | none => rw [hm] at h; cases h
       | some m =>
        rw [hm] at h
        cases h
        obtain ⟨v, hv, hrun⟩ := part_one hcs ha hm
        have hin' : 0 ≤ j ∧ j < (n' : Int) := hin
        exact ⟨v, hv, fun w => by simp [execOp, ho, he, hk, Instr.index, asIntOf, run_underlying hu, hin', run_size hz, hrun]⟩
     · cases h
   · cases h
 · cases h
theorem int_ok {s d : TypeId} {k q : IntKind} {i : Int} {ds : TypeDesc} (hs : P.underlying s = some ds) (hd : P.underlying d = some (.int k)) (w : World) : (convert s d (.int q i)).run P w = .ok (.int k (k.wrap i)) w := by
 simp only [convert, Sem.run_bind, run_underlying hs, run_underlying hd, Result.andThen_ok]
 cases ds <;> rfl
theorem gives_conv (hr : AR E A n a) {o : Oper} {s d : TypeId} {x : Operand} {p r : AV} (ho : o.op = .convert s d x) (hx : evA A x = some p) (h : evConvP P s d p = some r) : Gives P E a o r := by
 have h1 := evA_ok hr x p hx
 unfold evConvP at h
 split at h
 · rename_i ds k kk i hs hd
   cases h
   have he := VV.int h1
   refine ⟨.int k (k.wrap i), rfl, fun w => ?_⟩
   have hc := int_ok (q := kk) (i := i) hs hd w
   simp only [execOp, ho, he, Sem.run_bind, hc, Result.andThen_ok, Sem.run_pure]
 · cases h
theorem fold_max : ∀ (l : List AV) (vs : List Value) (k : IntKind) (i : Int) (r : AV), All2 (VV E) l vs → foldMM.go (fun a b => if a < b then b else a) k i l = some r → ∃ v, VV E r v ∧ ∀ w, (vs.foldlM Builtin.max2 (.int k i)).run P w = .ok v w
 | [], [], k, i, r, _, h => by
  cases h
  exact ⟨_, rfl, fun _ => rfl⟩
 | .v (.one (.i k' j)) :: l, v :: vs, k, i, r, hl, h => by
  have he : v = .int k' j := hl.1
  subst he
  obtain ⟨v, hv, hrun⟩ := fold_max l vs k (if i < j then j else i) r hl.2 h
  refine ⟨v, hv, fun w => ?_⟩
  simp only [List.foldlM_cons, Sem.run_bind, Builtin.max2, Sem.run_pure, Result.andThen_ok]
  exact hrun w
theorem fold_min : ∀ (l : List AV) (vs : List Value) (k : IntKind) (i : Int) (r : AV), All2 (VV E) l vs → foldMM.go (fun a b => if b < a then b else a) k i l = some r → ∃ v, VV E r v ∧ ∀ w, (vs.foldlM Builtin.min2 (.int k i)).run P w = .ok v w
 | [], [], k, i, r, _, h => by
  cases h
  exact ⟨_, rfl, fun _ => rfl⟩
 | .v (.one (.i k' j)) :: l, v :: vs, k, i, r, hl, h => by
  have he : v = .int k' j := hl.1
  subst he
  obtain ⟨v, hv, hrun⟩ := fold_min l vs k (if j < i then j else i) r hl.2 h
  refine ⟨v, hv, fun w => ?_⟩
  simp only [List.foldlM_cons, Sem.run_bind, Builtin.min2, Sem.run_pure, Result.andThen_ok]
  exact hrun w
theorem args_ok (hr : AR E A n a) {xs : Array Operand} {l : List AV} (h : allSome (evA A) xs.toList = some l) : All2 (VV E) l (xs.toList.map a.eval) :=
 allSome_ok (R := VV E) (g := a.eval) (fun x y hxy => evA_ok hr x y hxy) xs.toList l h
end
end Go.Ev
