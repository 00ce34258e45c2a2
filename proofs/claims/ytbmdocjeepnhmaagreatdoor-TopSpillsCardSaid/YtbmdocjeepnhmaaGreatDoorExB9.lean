/- Operations on letters that meet memory: they are right. -/
import Derived.Test.YtbmdocjeepnhmaaGreatDoorExB8
import Derived.Test.YtbmdocjeepnhmaaGreatDoorExB4
import Derived.Test.YtbmdocjeepnhmaaGreatDoorExB6
set_option linter.unusedVariables false
set_option linter.unusedSimpArgs false
set_option linter.unusedSectionVars false
namespace Go.Ev
open Go Go.RowKit Go.Proofs
section
variable {D : D2} {K : Kd} {q : Nat → Nat}
theorem sym_lt (hK : KdOk K D) {a : Sym} (hw : a.wf K = true) : ∀ c ∈ a.bytes D q, c < 256 := by
 cases a with
 | «by» n =>
  intro c hc
  have : c = n := by simpa [Sym.bytes] using hc
  subst this
  exact Nat.le_of_ble_eq_true hw
 | txt d => exact D.byte d
 | dig d =>
  intro c hc
  have := dec4_dig (n := D.n d) (by have := D.nle d; omega) c hc
  omega
 | zer l =>
  intro c hc
  have := List.eq_of_mem_replicate hc
  omega
 | lin l =>
  intro c hc
  have hc : c = (l.val D).toNat := by simpa [Sym.bytes] using hc
  have hw : (l.ge K 0 && l.le K 255) = true := hw
  rw [Bool.and_eq_true] at hw
  have := le_ok hK hw.2
  omega
 | bt v j =>
  intro c hc
  have hc : c = v.val D q / 256 ^ j % 256 := by simpa [Sym.bytes] using hc
  rw [hc]
  exact Nat.mod_lt _ (by decide)
theorem strB_lt (hK : KdOk K D) : ∀ {l : List Sym}, wfS K l = true → ∀ c ∈ strB D q l, c < 256
 | [], _, c, hc => by simp [strB] at hc
 | a :: l, hw, c, hc => by
  rcases List.mem_append.1 hc with h | h
  · exact sym_lt hK (wfS_cons hw).1 c h
  · exact strB_lt hK (wfS_cons hw).2 c h
theorem u8s_cells : ∀ (l : List Nat), (∀ x ∈ l, x < 256) → u8s (cellsU l) = some l
 | [], _ => rfl
 | a :: l, h => by
  show (bif Nat.blt a 256 then (u8s (cellsU l)).map fun m => a :: m else none) = _
  rw [u8s_cells l fun x hx => h x (List.mem_cons_of_mem _ hx), show Nat.blt a 256 = true from Nat.ble_eq_true_of_le (h a List.mem_cons_self)]
  rfl
theorem rowOf_mkO (t : Nat) (l : List Nat) : rowOf (mkO t l) = some (cellsU l) := by cases t <;> rfl
abbrev dH (D : D2) (q : Nat → Nat) (h : Hp) : Hp := @deepH (syW D q) h
theorem get_dH {h : Hp} {k : Nat} {o : AO} (hg : h.get k = some o) : (dH D q h).get k = some (dO D q o) := by
 rw [@get_deepH (syW D q), hg]
 rfl
theorem bytesAt_ok (hK : KdOk K D) {h : Hp} {u : Lt} {l : List Sym} (hw : wfL K u = true) (hb : bytesAt K h u = some l) : ∃ k o n c, u.den D q = .sl k o n c ∧ cellsIn (dH D q h) 1 (ov (.sl k o n c)) = some (cellsU (strB D q l)) ∧ (strB D q l).length = n ∧ wfS K l = true := by
 have go : ∀ (k : Nat) (o n : Lin), o.ge K 0 = true → n.ge K 0 = true → (((h.get k).bind (viewO K)).bind fun q => segS K q.2 o n) = some l → ∀ c, cellsIn (dH D q h) 1 (ov (.sl k (o.val D).toNat (n.val D).toNat c)) = some (cellsU (strB D q l)) ∧ (strB D q l).length = (n.val D).toNat ∧ wfS K l = true := by
  intro k o n ho hn hx c
  cases hg : h.get k with
  | none => simp [hg] at hx
  | some ob =>
   cases hv : viewO K ob with
   | none => simp [hg, hv] at hx
   | some p =>
    obtain ⟨t, m⟩ := p
    simp only [hg, hv, Option.bind_some] at hx
    obtain ⟨v1, v2, _⟩ := viewO_ok (q := q) hK hv
    obtain ⟨o', n', e1, e2, e3, e4, e5⟩ := segS_ok (q := q) hK v2 hx
    have hlen : (strB D q l).length = n' := by rw [← e4, List.length_take, List.length_drop]; omega
    refine ⟨?_, by rw [hlen, e2]; rfl, e5⟩
    unfold cellsIn ov
    simp only [get_dH hg, Option.bind_some, v1, rowOf_mkO, Nat.mul_one]
    rw [e1, e2]
    show seg (cellsU (strB D q m)) o' n' = _
    unfold seg
    rw [if_pos (by rw [cellsU_len]; exact e3), cellsU_drop, cellsU_take, e4]
 unfold bytesAt at hb
 split at hb
 · rename_i k o n j
   obtain ⟨w1, w2, w3⟩ := and3 hw
   obtain ⟨g1, g2, g3⟩ := go k o n w1 w2 hb (.un (j.val D).toNat)
   exact ⟨_, _, _, _, rfl, g1, g2, g3⟩
 · rename_i k o n j
   obtain ⟨w1, w2, w3⟩ := and3 hw
   obtain ⟨g1, g2, g3⟩ := go k o n w1 w2 hb (.ex (j.val D).toNat)
   exact ⟨_, _, _, _, rfl, g1, g2, g3⟩
 · cases hb
theorem lodL_ok (hK : KdOk K D) {h : Hp} {u : Lt} {r : A1} (hw : wfL K u = true) (hx : lodL K h u = some r) : evLoad Tryz.prog 5 (ov (u.den D q)) (dH D q h) = some (ov (dW D q r)) := by
 unfold lodL at hx
 split at hx
 · rename_i k o
   cases hg : h.get k with
   | none => simp [hg] at hx
   | some ob =>
    cases hv : viewO K ob with
    | none => simp [hg, hv] at hx
    | some p =>
     obtain ⟨t, m⟩ := p
     simp only [hg, hv, Option.bind_some] at hx
     obtain ⟨v1, v2, _⟩ := viewO_ok (q := q) hK hv
     obtain ⟨n, e1, e2⟩ := cellS_ok (q := q) hK v2 hx
     show evLoad Tryz.prog 5 (ov (.p k (o.val D).toNat)) _ = _
     unfold evLoad ov
     simp only [get_dH hg, Option.bind_some, v1, rowOf_mkO, g5]
     rw [e1, Int.toNat_natCast, e2]
     rfl
 · cases hx
theorem newRow_ok (hK : KdOk K D) {h : Hp} {l : List Sym} {us us' : List U} {v : AV} (hw : wfS K l = true) (hx : newRow K h l us = some (v, us')) : ∃ x o, v = .v (.one x) ∧ us' = us ++ [.new o] ∧ dW D q x = .sl h.n 0 (strB D q l).length (.un 0) ∧ dO D q o = .row 5 1 (cellsU (strB D q l)) ∧ (strB D q l).length ≤ 100000 ∧ h.n < 2 ^ Go.Ev.D := by
 unfold newRow at hx
 split at hx
 · rename_i x o h1 h2
   have hc := (bif1 hx).1
   replace hx := (bif1 hx).2
   injection hx with hx
   injection hx with e1 e2
   rw [Bool.and_eq_true] at hc
   have h3 := le_ok hK hc.1
   rw [lenS_ok (q := q) hK hw] at h3
   refine ⟨x, o, e1.symm, e2.symm, ?_, backO_ok h2, by omega, Nat.le_of_ble_eq_true hc.2⟩
   rw [back_ok (D := D) (q := q) h1]
   show A1.sl h.n ((Lin.k 0).val D).toNat ((lenS l).val D).toNat (.un ((Lin.k 0).val D).toNat) = _
   rw [lenS_ok (q := q) hK hw, val_k]
   rfl
 · cases hx
theorem mkRow_eq {h : Hp} {l : List Nat} {us : List U} (hn : h.n < 2 ^ Go.Ev.D) (hl : l.length ≤ 1000000) : mkRow Tryz.prog h 5 1 (cellsU l) l.length us = some (ov (.sl h.n 0 l.length (.un 0)), us ++ [.new (.row 5 1 (cellsU l))]) := by
 unfold mkRow
 simp only [z5, b5]
 rw [if_pos ⟨hn, rfl, by omega, hl, by rw [cellsU_len, Nat.mul_one]⟩]
 rfl
set_option maxRecDepth 20000 in
theorem appL_ok (hK : KdOk K D) {h : Hp} {s : A1} {u : Lt} {x' : A1} {v : AV} {us : List U} (hw : wfL K u = true) (hx : appL K h s u = some (v, us)) : evAppend Tryz.prog (dH D q h) 23 23 (ov (dW D q s)) (ov (u.den D q)) = some (@denV (syW D q) v, us.map (@deepU (syW D q))) := by
 unfold appL at hx
 split at hx
 · rename_i m n hb hn1
   have hge := ge_ok hK (bif1 hx).1
   replace hx := (bif1 hx).2
   obtain ⟨kx, ox, nx, cx, hu, hcx, hlx, hwm⟩ := bytesAt_ok (q := q) hK hw hb
   have hnx : n.val D = nx := by
    unfold lenOf1 at hn1
    split at hn1
    · injection hn1 with hn1
      subst hn1
      obtain ⟨w1, w2, w3⟩ := and3 hw
      have := ge_ok hK w2
      have hu : A1.sl _ _ _ _ = A1.sl kx ox nx cx := hu
      injection hu with _ _ e _
      omega
    · injection hn1 with hn1
      subst hn1
      obtain ⟨w1, w2, w3⟩ := and3 hw
      have := ge_ok hK w2
      have hu : A1.sl _ _ _ _ = A1.sl kx ox nx cx := hu
      injection hu with _ _ e _
      omega
    · cases hn1
   have hnx0 : nx ≠ 0 := by omega
   have fin : ∀ (old : List Nat) (l : List Sym) (us0 us1 : List U), wfS K l = true → strB D q l = old ++ strB D q m → newRow K h l us0 = some (v, us) → us0.map (@deepU (syW D q)) = us1 → mkRow Tryz.prog (dH D q h) 5 1 (cellsU old ++ cellsU (strB D q m)) (old.length + nx) us1 = some (@denV (syW D q) v, us.map (@deepU (syW D q))) := by
    intro old l us0 us1 hwl hl hnr hus
    obtain ⟨x, o, e1, e2, e3, e4, e5, e6⟩ := newRow_ok (q := q) hK hwl hnr
    rw [e1, e2, ← cellsU_app, ← hl, ← hlx, ← List.length_append, ← hl]
    rw [mkRow_eq (h := dH D q h) e6 (by omega), List.map_append, hus]
    show some (ov (A1.sl h.n 0 (strB D q l).length (.un 0)), us1 ++ [U.new (.row 5 1 (cellsU (strB D q l)))]) = some (ov (dW D q x), us1 ++ [U.new (dO D q o)])
    rw [e3, e4]
   rw [hu]
   split at hx
   · -- nil
     have := fin [] m [] [] hwm rfl hx rfl
     unfold evAppend
     simp only [if_true, el23, ov, s5] at hcx ⊢
     simp only [hcx]
     show (if nx = 0 then none else mkRow Tryz.prog (dH D q h) 5 1 (cellsU (strB D q m)) nx []) = _
     rw [if_neg hnx0]
     simpa [cellsU] using this
   · split at hx
     · rename_i k o qn j hv
       have hz := (bif1 hx).1
       replace hx := (bif1 hx).2
       rw [Bool.and_eq_true] at hz
       obtain ⟨v1, v2⟩ := view_ok (D := D) (q := q) hv
       obtain ⟨w1, w2, w3⟩ := and3 v2
       have hq0 := ge_ok hK w2
       split at hx
       · rename_i ob hg
         split at hx
         · rename_i l hvo
           obtain ⟨o1, o2, _⟩ := viewO_ok (q := q) hK hvo
           cases ht : takeS K l qn with
           | none => simp [ht] at hx
           | some old =>
            simp only [ht, Option.bind_some] at hx
            obtain ⟨n0, g1, g2, g3, g4⟩ := takeS_ok (q := q) hK o2 ht
            have hol : (strB D q old).length = n0 := by rw [← g3, List.length_take]; omega
            have := fin (strB D q old) (old ++ m) [.del k] [.del k] (wfS_app g4 hwm) (strB_app D q old m) hx rfl
            rw [v1]
            show evAppend Tryz.prog (dH D q h) 23 23 (ov (.sl k (o.val D).toNat (qn.val D).toNat (.un (j.val D).toNat))) _ = _
            rw [val_z hz.1, val_z hz.2, g1]
            unfold evAppend
            simp only [if_true, el23, ov, s5] at hcx ⊢
            have hgk : (dH D q h).get k = some (.row 5 1 (cellsU (strB D q l))) := by rw [get_dH hg, o1]; rfl
            simp only [hcx]
            show (if nx = 0 then none else match (dH D q h).get k with
             | some (.row t' z' l) => if t' = 5 ∧ z' = 1 ∧ n0 * 1 ≤ l.length then mkRow Tryz.prog (dH D q h) 5 1 (l.take (n0 * 1) ++ cellsU (strB D q m)) (n0 + nx) [.del k] else none
             | _ => none) = _
            rw [if_neg hnx0, hgk]
            show (if (5 : Nat) = 5 ∧ (1 : Nat) = 1 ∧ n0 * 1 ≤ (cellsU (strB D q l)).length then mkRow Tryz.prog (dH D q h) 5 1 ((cellsU (strB D q l)).take (n0 * 1) ++ cellsU (strB D q m)) (n0 + nx) [.del k] else none) = _
            rw [if_pos ⟨rfl, rfl, by rw [cellsU_len]; omega⟩, Nat.mul_one, cellsU_take, g3, ← hol]
            exact this
         · cases hx
       · cases hx
     · rename_i k o qn c hv
       have hroom := ge_ok hK (bif1 hx).1
       replace hx := (bif1 hx).2
       obtain ⟨v1, v2⟩ := view_ok (D := D) (q := q) hv
       obtain ⟨w1, w2, w3⟩ := and3 v2
       have hq0 := ge_ok hK w2
       have hc0 := ge_ok hK w3
       rw [val_sub, val_add] at hroom
       split at hx
       · rename_i old hold
         obtain ⟨k1, o1, n1, c1, d1, d2, d3, d4⟩ := bytesAt_ok (q := q) hK v2 hold
         have d1 : A1.sl k (o.val D).toNat (qn.val D).toNat (.ex (c.val D).toNat) = .sl k1 o1 n1 c1 := d1
         injection d1 with a1 a2 a3 a4
         subst a1; subst a2; subst a3; subst a4
         have := fin (strB D q old) (old ++ m) [] [] (wfS_app d4 hwm) (strB_app D q old m) hx rfl
         rw [v1]
         show evAppend Tryz.prog (dH D q h) 23 23 (ov (.sl k (o.val D).toNat (qn.val D).toNat (.ex (c.val D).toNat))) _ = _
         unfold evAppend
         simp only [if_true, el23, ov, s5] at hcx d2 ⊢
         simp only [hcx, d2]
         rw [if_neg (by omega), ← d3]
         exact this
       · cases hx
     · cases hx
 · cases hx
set_option maxRecDepth 20000 in
theorem copyL_ok (hK : KdOk K D) {h : Hp} {u0 u : Lt} {v : AV} {us : List U} (hw0 : wfL K u0 = true) (hw : wfL K u = true) (hx : copyL K h u0 u = some (v, us)) : evCopy Tryz.prog (dH D q h) 23 (ov (u0.den D q)) (ov (u.den D q)) = some (@denV (syW D q) v, us.map (@deepU (syW D q))) := by
 unfold copyL at hx
 split at hx
 · rename_i k o qn c m n hb hn1
   have hc := (bif1 hx).1
   replace hx := (bif1 hx).2
   rw [Bool.and_eq_true] at hc
   obtain ⟨kx, ox, nx, cx, hu, hcx, hlx, hwm⟩ := bytesAt_ok (q := q) hK hw hb
   have hnx : n.val D = nx := by
    unfold lenOf1 at hn1
    split at hn1
    · injection hn1 with hn1
      subst hn1
      obtain ⟨w1, w2, w3⟩ := and3 hw
      have := ge_ok hK w2
      have hu : A1.sl _ _ _ _ = A1.sl kx ox nx cx := hu
      injection hu with _ _ e _
      omega
    · injection hn1 with hn1
      subst hn1
      obtain ⟨w1, w2, w3⟩ := and3 hw
      have := ge_ok hK w2
      have hu : A1.sl _ _ _ _ = A1.sl kx ox nx cx := hu
      injection hu with _ _ e _
      omega
    · cases hn1
   have hle := ge_ok hK hc.2
   rw [val_sub] at hle
   obtain ⟨w1, w2, w3⟩ := and3 hw0
   have hq0 := ge_ok hK w2
   split at hx
   · rename_i l hv
     cases hg : h.get k with
     | none => simp [hg] at hv
     | some ob =>
      simp only [hg, Option.bind_some] at hv
      obtain ⟨o1, o2, _⟩ := viewO_ok (q := q) hK hv
      cases hd : dropS K l n with
      | none => simp [hd] at hx
      | some r =>
       cases hbo : backO 1 (m ++ r) with
       | none => simp [hd, hbo] at hx
       | some ob' =>
        cases hbn : back (.num .i64 n) with
        | none => simp [hd, hbo, hbn] at hx
        | some y =>
         simp only [hd, hbo, hbn, Option.bind_some, Option.map_some, Option.some.injEq, Prod.mk.injEq] at hx
         obtain ⟨e1, e2⟩ := hx
         obtain ⟨n0, g1, g2, g3, g4⟩ := dropS_ok (q := q) hK o2 hd
         have hn0 : n0 = nx := by omega
         subst hn0
         rw [← e1, ← e2, hu]
         show evCopy Tryz.prog (dH D q h) 23 (ov (.sl k (o.val D).toNat (qn.val D).toNat (.ex (c.val D).toNat))) _ = _
         rw [val_z hc.1]
         unfold evCopy
         simp only [el23, ov, s5] at hcx ⊢
         have hgk : (dH D q h).get k = some (.cells 5 (cellsU (strB D q l))) := by rw [get_dH hg, o1]; rfl
         simp only [hcx, hgk, rowOf]
         have hmin : Nat.min n0 (qn.val D).toNat = n0 := Nat.min_eq_left (by omega)
         rw [hmin, Nat.mul_one, List.take_of_length_le (by rw [cellsU_len]; omega)]
         have hov : over (cellsU (strB D q l)) (0 : Int).toNat (cellsU (strB D q m)) = some (cellsU (strB D q m ++ strB D q r)) := by
          unfold over
          show (if 0 + _ ≤ _ then some (List.take 0 _ ++ _ ++ List.drop (0 + _) _) else none) = _
          rw [if_pos (by rw [cellsU_len, cellsU_len]; omega), List.take_zero, List.nil_append, Nat.zero_add, cellsU_len, hlx, cellsU_drop, g3, cellsU_app]
         rw [hov]
         show some (AV.v (.one (.i .i64 (n0 : Nat))), [U.put k (.cells 5 (cellsU (strB D q m ++ strB D q r)))]) = some (AV.v (.one (dW D q y)), [U.put k (dO D q ob')])
         rw [back_ok (D := D) (q := q) hbn, backO_ok (D := D) (q := q) hbo, strB_app]
         show _ = some (AV.v (.one (.i .i64 (n.val D))), _)
         rw [hnx]
         rfl
   · cases hx
 · cases hx
set_option maxRecDepth 20000 in
theorem mkL_ok (hK : KdOk K D) {h : Hp} {u0 u : Lt} {v : AV} {us : List U} (hx : mkL K h u0 u = some (v, us)) : evMakeSlice Tryz.prog (dH D q h) 23 (ov (u0.den D q)) (ov (u.den D q)) = some (@denV (syW D q) v, us.map (@deepU (syW D q))) := by
 unfold mkL at hx
 split at hx
 · rename_i a b
   have hc := (bif1 hx).1
   replace hx := (bif1 hx).2
   simp only [Bool.and_eq_true] at hc
   obtain ⟨⟨⟨h1, h2⟩, h3⟩, h4⟩ := hc
   have hab := Lin.eq_ok h1
   subst hab
   have h2 := ge_ok hK h2
   have h3 := le_ok hK h3
   have h4 : h.n < 2 ^ Go.Ev.D := Nat.le_of_ble_eq_true h4
   split at hx
   · rename_i r o hr ho
     injection hx with hx
     injection hx with e1 e2
     rw [← e1, ← e2]
     show evMakeSlice Tryz.prog (dH D q h) 23 (ov (.i .i64 (a.val D))) (ov (.i .i64 (a.val D))) = some (AV.v (.one (dW D q r)), [U.new (dO D q o)])
     rw [back_ok (D := D) (q := q) hr, backO_ok (D := D) (q := q) ho]
     unfold evMakeSlice
     simp only [el23, ov, intOf, z5, s5, b5]
     rw [if_pos ⟨h2, Int.le_refl _, by omega, by decide, rfl, h4⟩]
     show some (AV.v (.one (.sl h.n 0 (a.val D).toNat (.ex (a.val D).toNat))), [U.new (.cells 5 (zeros [A1.i .u8 0] (a.val D).toNat))]) = some (AV.v (.one (.sl h.n ((Lin.k 0).val D).toNat (a.val D).toNat (.ex (a.val D).toNat))), [U.new (.cells 5 (cellsU (List.replicate (a.val D).toNat 0 ++ [])))])
     rw [val_k, List.append_nil]
     have hz : ∀ n, zeros [A1.i .u8 0] n = cellsU (List.replicate n 0) := by
      intro n
      unfold zeros cellsU
      rw [List.map_replicate]
      induction n with
      | zero => rfl
      | succ n ih => rw [List.replicate_succ, List.replicate_succ, List.flatten_cons, ih]; rfl
     rw [hz]
     rfl
   · cases hx
 · cases hx
end
end Go.Ev
namespace Go.Ev
open Go Go.RowKit
variable [Sy]
section
variable {E : List Ent} {w0 : Base} {w w' : World} {h : Hp}
/-- A row's block, told by a new name. -/
theorem Rep.renew (hr : Rep w0 E h w) {k b c : Nat} {o o' : AO} (hk : E[k]? = some (.blk b c)) (hg : h.get k = some o) (hn : h.n < 2 ^ D) (hb : Kept w0 w') (hs : w.heap.size ≤ w'.heap.size)
  (hm : ∀ j, j ≠ b → w'.heap[j]? = w.heap[j]?) (hi : Is (E ++ [.blk b c]) c w'.heap[b]? o') : Rep w0 (E ++ [.blk b c]) ((h.del k).new o') w' := by
 have hkn := lt_of_get hr hk
 have hlt := hr.old k o b c hkn hg hk
 have hdel := hr.del hkn
 have live : ∀ j q, j < (h.del k).n → (h.del k).get j = some q → j ≠ k ∧ h.get j = some q := by
  intro j q hj hq
  have hjk : j ≠ k := by
   intro e
   subst e
   have : (h.del j).get j = none := Tr.get_same D h.t j none
   rw [this] at hq
   cases hq
  refine ⟨hjk, ?_⟩
  have : (h.del k).get j = h.get j := Tr.get_other D h.t k j _ (Nat.lt_of_lt_of_le hkn hr.bound) (Nat.lt_of_lt_of_le hj hr.bound) hjk
  rwa [this] at hq
 have hmv : Rep w0 E (h.del k) w' := hdel.move hb hs (fun j q b' c' hj hq hb' => by
  obtain ⟨hjk, hq'⟩ := live j q hj hq
  refine hm b' (fun e9 => ?_)
  subst e9
  exact hjk (hr.sep j k _ _ _ _ _ hj hkn hq' hg hb' hk))
 refine hmv.grow (e := .blk b c) (o := o') hn (OK.of_is (last_new hr _) hi) ?_
 intro b' c' hbc
 injection hbc with e6 e7
 subst e6
 refine ⟨hlt.1, Nat.lt_of_lt_of_le hlt.2 hs, fun j q c9 hj hq hb' => ?_⟩
 obtain ⟨hjk, hq'⟩ := live j q hj hq
 exact hjk (hr.sep j k _ _ _ _ _ hj hkn hq' hg hb' hk)
end
end Go.Ev
namespace Go.Ev
open Go Go.RowKit Go.Proofs
section
variable {w : World}
theorem i5 : ∃ i, Tryz.prog.info? 5 = some i ∧ i.zero = some (.int .u8 0) ∧ i.size = 1 ∧ i.bytes = 1 := by
 have h : (Tryz.prog.info? 5).map (fun i => (i.zero, i.size, i.bytes)) = some (some (.int .u8 0), 1, 1) := by kernel_rfl
 cases hi : Tryz.prog.info? 5 with
 | none => rw [hi] at h; cases h
 | some i =>
  rw [hi] at h
  injection h with h
  injection h with h1 h
  injection h with h2 h3
  exact ⟨i, rfl, h1, h2, h3⟩
abbrev dS : Sy := syW ⟨fun _ => [], fun _ _ h => (by simp at h), fun _ => Nat.zero_le _⟩ (fun _ => 0)
theorem zero_cells (n : Nat) : (Builtin.zeroCells (Value.int .u8 0).cells n).toList = List.replicate n (Value.int .u8 0) := @zeros_eq dS _ rfl n
set_option maxRecDepth 20000 in
theorem run_zeros_in {ty : TypeId} {g sLen sCap n : Nat} {cur : Array Value} {tt : TypeId} {fr : Nat × Nat} (hg : w.heap[g]? = some (.cells cur tt fr)) (hfr : FrOk tt cur.size fr) (hn : 0 < n) (hbig : n ≤ 100000) (hroom : sLen + n ≤ sCap) (hfit : sLen + n ≤ cur.size) :
  (Builtin.append_ #[23, 3] ty #[.slice (some ⟨g, 0, none⟩) sLen sCap, .int .i64 (n : Nat)]).run Tryz.prog w = .ok (.slice (some ⟨g, 0, none⟩) (sLen + n) sCap) (w.setCells g sLen (List.replicate n (Value.int .u8 0))) := by
 obtain ⟨i, hi, hz, hs, hb⟩ := i5
 letI := dS
 have hst := store_run (P := Tryz.prog) (o := sLen) (us := List.replicate n (Value.int .u8 0)) hg hfr (by rw [List.length_replicate]; exact hfit) (fun v hv => by rw [List.eq_of_mem_replicate hv]; rfl)
 have hw : IntKind.i64.wrap (n : Int) = n := wrap_i64 (by omega)
 have hneg : ¬ ((n : Int) < 0) := by omega
 have h48 : ¬ (281474976710656 < (n : Int)) := by omega
 have hn0 : n ≠ 0 := by omega
 have hzc := zero_cells n
 simp [Builtin.append_, run_underlying t23, run_underlying t3, sizeOf, typeInfo, zeroValue, hi, hz, hs, hb, asInt, asIntOf, hw, hneg, h48, hn0, hroom, Addr.add_lit, hzc, hst]
set_option maxRecDepth 20000 in
theorem run_zeros_grow {ty : TypeId} {sLen sCap n : Nat} {b : Addr} {olds : List Value} (hlo : olds.length = sLen) (holds : ∀ j v, olds[j]? = some v → w.cell? (b.add j) = some v) (hn : 0 < n) (hbig : sLen + n ≤ 200000) (hg : sCap < sLen + n) :
  (Builtin.append_ #[23, 3] ty #[.slice (some b) sLen sCap, .int .i64 (n : Nat)]).run Tryz.prog w = .ok (.slice (some ⟨w.heap.size, 0, none⟩) (sLen + n) (grownCap w (sLen + n) sCap 5)) (w.drew.alloc (.cells ((olds ++ List.replicate n (Value.int .u8 0)).toArray ++ Builtin.zeroCells (Value.int .u8 0).cells (grownCap w (sLen + n) sCap 5 - (sLen + n))) 5)) := by
 obtain ⟨i, hi, hz, hs, hb⟩ := i5
 have hw : IntKind.i64.wrap (n : Int) = n := wrap_i64 (by omega)
 have hneg : ¬ ((n : Int) < 0) := by omega
 have h48 : ¬ (281474976710656 < (n : Int)) := by omega
 have hn0 : n ≠ 0 := by omega
 have hnr : ¬ (sLen + n ≤ sCap) := by omega
 have h63 : ¬ (9223372036854775807 < ((sLen : Int) + (n : Int))) := by omega
 have hfit := growslice_fits (need := sLen + n) (old := sCap) (bytes := i.bytes) hg (by rw [hb]; omega)
 have h48' : ¬ (281474976710656 < Builtin.nextslicecap (sLen + n) sCap) := by rw [hb, Nat.mul_one] at hfit; omega
 have hfo := run_firstCells_some (P := Tryz.prog) w.drew 1 sLen b sLen sCap olds (by omega) (by simpa using holds)
 have hzc : Builtin.zeroCells (Value.int .u8 0).cells n = (List.replicate n (Value.int .u8 0)).toArray := by rw [← zero_cells n]
 simp [Builtin.append_, run_underlying t23, run_underlying t3, sizeOf, typeInfo, zeroValue, hi, hz, hs, hb, asInt, asIntOf, hw, hneg, h48, hn0, hnr, h63, h48', Question.forced, hfo, Go.newRow, grownCap]
 rw [hzc]
 congr 2
 apply Array.ext'
 simp [List.append_assoc]
end
end Go.Ev
namespace Go.Ev
open Go Go.RowKit Go.Proofs
section
variable {D : D2} {K : Kd} {q : Nat → Nat}
theorem args_ty {c : Call} {l : List TypeId} (h : c.argTypes.toList = l) : c.argTypes = l.toArray := by
 apply Array.toList_inj.1
 simpa using h
theorem run_zeros_none {w : World} {ty : TypeId} {base : Option Addr} {n cap : Nat} (hn : n ≤ cap) : (Builtin.append_ #[23, 3] ty #[.slice base n cap, .int .i64 0]).run Tryz.prog w = .ok (.slice base n cap) w := by
 obtain ⟨i, hi, hz, hs, hb⟩ := i5
 have hw : IntKind.i64.wrap 0 = 0 := rfl
 cases base <;> simp [Builtin.append_, run_underlying t23, run_underlying t3, sizeOf, typeInfo, zeroValue, hi, hz, hs, hb, asInt, asIntOf, hw, hn, storeCells]
/-- The cells of a row that is told. -/
theorem told_cells {S : Sy} {w0 : Base} {E : List Ent} {h : Hp} {w : World} (hr : @Rep S w0 E h w) {k b cap m : Nat} {l : List A1} (hk : E[k]? = some (.blk b cap)) (hg : h.get k = some (.row 5 1 l)) (hm : m ≤ l.length) : ∃ cur fr, w.heap[b]? = some (.cells cur 5 fr) ∧ FrOk 5 cur.size fr ∧ cur.size = cap ∧ cap ≤ maxLen ∧ m ≤ cur.size ∧ All2 (@V1 S E) (l.take m) (cur.toList.take m) := by
 letI := S
 obtain ⟨cur, fr, g1, g2, g3, g4, g5⟩ := (hr.obj k _ (lt_of_get hr hk) hg).is hk
 have hlen := g5.length
 rw [List.length_take] at hlen
 have h9 : cur.toList.length = cur.size := Array.length_toList
 refine ⟨cur, fr, g1, g2, by omega, g4, by omega, ?_⟩
 have := g5.take m
 rwa [List.take_take, Nat.min_eq_left hm] at this
/-- A block, of whose bytes only a part is told. -/
theorem is_told {S : Sy} {E : List Ent} {cap : Nat} {x : Option Obj} {cur : Array Value} {fr : Nat × Nat} {l : List A1} {vs : List Value} (hx : x = some (.cells cur 5 fr)) (hfr : FrOk 5 cur.size fr) (hs : cur.size = cap) (hc : cap ≤ maxLen) (hl : All2 (@V1 S E) l vs) (ht : cur.toList.take l.length = vs) : @Is S E cap x (.row 5 1 l) :=
 ⟨cur, fr, hx, hfr, by omega, hc, by rw [ht]; exact hl⟩
set_option maxRecDepth 20000 in
theorem turns_appZ (hK : KdOk K D) {w0 : Base} {E : List Ent} {A : Fr} {n : Nat} {a : Act} {h : Hp} {w : World} (ha : @AR (syW D q) E A n a) (hr : @Rep (syW D q) w0 E h w) {o : Oper} {c : Call} {s x : A1} {u : Lt} {v : AV} {us : List U} (ho : o.op = .call c) (hc : c.callee = .builtin .append) (hx : allSome (oneL A) c.args.toList = some [s, x]) (ht : c.argTypes.toList = [23, 3])
  (hu : view K x = some u) (he : appZ K h s u = some (v, us)) : @Turns (syW D q) Tryz.prog w0 E a w o v (apU h us) := by
 letI := syW D q
 have hxs := oneLs_ok hx
 obtain ⟨vs, vx, hvs, hvx, heq⟩ := args2 ha.den hxs
 have hts := args_ty ht
 have go : ∀ (v' : Value) (w' : World), (Builtin.append_ #[23, 3] o.type #[vs, vx]).run Tryz.prog w = .ok v' w' → (execOp a.eval o).run Tryz.prog w = .ok (.value v') w' := by
  intro v' w' hrun
  simp only [execOp, ho, resolve, hc, heq, hts, invoke, builtin, Sem.run_bind, Sem.run_pure, Result.andThen_ok, hrun]
 have hvs : V1 E s.den vs := hvs
 have hvx : V1 E x.den vx := hvx
 rw [view_den (D := D) (q := q) hu] at hvx
 unfold appZ at he
 split at he
 · rename_i k o' qn j nz hv
   have hvx : vx = .int .i64 (nz.val D) := hvx
   obtain ⟨v1, v2⟩ := view_ok (D := D) (q := q) hv
   obtain ⟨w1, w2, w3⟩ := and3 v2
   have hvs2 := hvs
   rw [view_den (D := D) (q := q) hv] at hvs
   obtain ⟨b, cap, hk, e1, e2⟩ := hvs
   rcases bif2 he with ⟨hz, he⟩ | ⟨_, he⟩
   · injection he with he
     injection he with g1 g2
     rw [← g1, ← g2]
     rw [val_z hz] at hvx
     refine ⟨E, w, vs, Pre.refl E, hr, (V1_den E s vs).2 hvs2, .inl (go _ _ ?_)⟩
     rw [e1, hvx]
     exact run_zeros_none e2
   · have hz := (bif1 he).1
     replace he := (bif1 he).2
     simp only [Bool.and_eq_true] at hz
     obtain ⟨⟨⟨z1, z0⟩, z2⟩, z3⟩ := hz
     have z1 := ge_ok hK z1
     obtain ⟨m, hm, _⟩ := toN (by omega : 0 ≤ nz.val D)
     rw [hm] at hvx
     cases hg : h.get k with
     | none => simp [hg] at he
     | some ob =>
      simp only [hg, Option.bind_some] at he
      split at he
      · rename_i l hvo
        obtain ⟨o1, o2, _⟩ := viewO_ok (q := q) hK hvo
        cases htk : takeS K l qn with
        | none => simp [htk] at he
        | some old =>
         simp only [htk, Option.bind_some] at he
         obtain ⟨n0, t1, t2, t3', t4⟩ := takeS_ok (q := q) hK o2 htk
         have hwz : wfS K (old ++ [.zer nz]) = true := wfS_app t4 (wfS_mk z0 rfl)
         obtain ⟨y, ob', f1, f2, f3, f4, f5, f6⟩ := newRow_ok (q := q) hK hwz he
         have hstr : strB D q (old ++ [.zer nz]) = (strB D q l).take n0 ++ List.replicate m 0 := by
          rw [strB_app, t3']
          show _ ++ (List.replicate (nz.val D).toNat 0 ++ []) = _
          rw [hm, List.append_nil]
          rfl
         have hlen : (strB D q (old ++ [.zer nz])).length = n0 + m := by rw [hstr, List.length_append, List.length_take, List.length_replicate]; omega
         rw [hlen] at f3 f5
         have rd := hr.deep
         have hgk : (dH D q h).get k = some (.row 5 1 (cellsU (strB D q l))) := by rw [get_dH hg, o1]; rfl
         obtain ⟨cur, fr, c1, c2, c3, c4, c5, c6⟩ := told_cells rd hk hgk (m := n0) (by rw [cellsU_len]; exact t2)
         rw [val_z z2, t1, val_z z3] at e1
         rw [t1, val_z z3] at e2
         have e1 : vs = .slice (some ⟨b, 0, none⟩) n0 (cap - 0) := e1
         have e2 : n0 ≤ cap - 0 := e2
         rw [Nat.sub_zero] at e1 e2
         rw [f1, f2]
         refine turns_undeep ?_
         have eu : ([U.del k] ++ [U.new ob']).map deepU = [U.del k, U.new (dO D q ob')] := rfl
         rw [eu]
         show Turns Tryz.prog w0 E a w o (ov (dW D q y)) (((dH D q h).del k).new (dO D q ob'))
         rw [f3, f4, hstr]
         have hzs : All2 (V1 E) (cellsU (List.replicate m 0)) (List.replicate m (Value.int .u8 0)) := by
          have := all_bytes (E := E) (List.replicate m 0)
          rw [List.map_replicate, List.map_replicate] at this
          unfold cellsU
          rw [List.map_replicate]
          exact this
         have hall : All2 (V1 E) (cellsU ((strB D q l).take n0 ++ List.replicate m 0)) (cur.toList.take n0 ++ List.replicate m (Value.int .u8 0)) := by
          rw [cellsU_app, ← cellsU_take]
          exact c6.append hzs
         have hl1 : (cellsU ((strB D q l).take n0 ++ List.replicate m 0)).length = n0 + m := by rw [cellsU_len, List.length_append, List.length_take, List.length_replicate]; omega
         have hlt0 : (cur.toList.take n0).length = n0 := by rw [List.length_take, Array.length_toList]; omega
         have hlt := rd.old k _ b cap (lt_of_get rd hk) hgk hk
         by_cases hroom : n0 + m ≤ cap
         · have hrun := run_zeros_in (ty := o.type) (sLen := n0) (sCap := cap) (n := m) c1 c2 (by omega) (by omega) hroom (by omega)
           obtain ⟨cur', k1, k2, k3⟩ := setCells_row (List.replicate m (Value.int .u8 0)) n0 w cur c1 (by rw [List.length_replicate]; omega)
           refine ⟨_, _, _, Pre.one E _, rd.renew (w' := w.setCells b n0 (List.replicate m (Value.int .u8 0))) hk hgk f6 (below_setCells hlt.1 _ _ w rd.below) (by rw [setCells_size]; exact Nat.le_refl _) (fun j hj => setCells_far b _ _ w j hj) (is_told k1 (by rw [k2]; exact c2) (by rw [k2]; exact c3) c4 (hall.imp (V1.ext (Ext.one E _))) ?_), ⟨b, cap, last_new rd _, rfl, by simp only [capOf]; omega⟩, .inl (go _ _ ?_)⟩
           · rw [hl1, k3]
             unfold overV
             rw [List.take_append_of_le_length (by rw [List.length_append, hlt0, List.length_replicate]; exact Nat.le_refl _), List.take_of_length_le (by rw [List.length_append, hlt0, List.length_replicate]; exact Nat.le_refl _)]
           · rw [e1, hvx, hrun]
             rfl
         · have holds : ∀ j u, (cur.toList.take n0)[j]? = some u → w.cell? ((⟨b, 0, none⟩ : Addr).add j) = some u := by
            intro j u hj
            rw [Addr.add_mid, cell_eq c1, Nat.zero_add, ← Array.getElem?_toList]
            rw [List.getElem?_take] at hj
            split at hj
            · exact hj
            · cases hj
           have hrun := run_zeros_grow (w := w) (ty := o.type) (sLen := n0) (sCap := cap) (n := m) (b := ⟨b, 0, none⟩) hlt0 holds (by omega) (by omega) (by omega)
           have hcap : n0 + m ≤ grownCap w (n0 + m) cap 5 := grownCap_ge w _ _ _
           have hmax : grownCap w (n0 + m) cap 5 ≤ maxLen := grownCap_le_maxLen w _ _ _ (by simp only [maxLen]; omega)
           refine ⟨_, _, _, Pre.one E _, alloc_row (rd.del (lt_of_get rd hk)) (news := cur.toList.take n0 ++ List.replicate m (Value.int .u8 0)) (rest := Builtin.zeroCells (Value.int .u8 0).cells (grownCap w (n0 + m) cap 5 - (n0 + m))) (e := 5) (z := 1) (m := n0 + m) (cap := grownCap w (n0 + m) cap 5) f6 hall (by rw [hl1, Nat.mul_one]) hcap hmax (by rw [size_zeroCells]; rfl), ⟨w.heap.size, _, last_new rd _, rfl, hcap⟩, .inl (go _ _ ?_)⟩
           rw [e1, hvx, hrun]
           rfl
      · cases he
 · cases he
/-- Less is told. -/
theorem Rep.weaken {S : Sy} {w0 : Base} {E : List Ent} {h h' : Hp} {w : World} (hr : @Rep S w0 E h w) (hn : h'.n = h.n) (hw : ∀ k o', k < 2 ^ Go.Ev.D → h'.get k = some o' → ∃ o, h.get k = some o ∧ (@OK S E w k o → @OK S E w k o')) : @Rep S w0 E h' w := by
 letI := S
 have hb := hr.bound
 refine ⟨hr.below, by rw [hn]; exact hr.len, by rw [hn]; exact hb, fun k o' hk ho => ?_, fun k hk hd => ?_, fun k k' o o' b c c' hk hk' ho ho' h1 h2 => ?_, fun k o b c hk ho he => ?_⟩
 · rw [hn] at hk
   obtain ⟨o, h1, h2⟩ := hw k o' (Nat.lt_of_lt_of_le hk hb) ho
   exact h2 (hr.obj k o hk h1)
 · rw [hn] at hk
   cases hg : h'.get k with
   | none => rfl
   | some o' =>
    obtain ⟨o, h1, _⟩ := hw k o' hd hg
    rw [hr.free k hk hd] at h1
    cases h1
 · rw [hn] at hk hk'
   obtain ⟨p, g1, _⟩ := hw k o (Nat.lt_of_lt_of_le hk hb) ho
   obtain ⟨p', g2, _⟩ := hw k' o' (Nat.lt_of_lt_of_le hk' hb) ho'
   exact hr.sep k k' p p' b c c' hk hk' g1 g2 h1 h2
 · rw [hn] at hk
   obtain ⟨p, g1, _⟩ := hw k o (Nat.lt_of_lt_of_le hk hb) ho
   exact hr.old k p b c hk g1 he
theorem junk_all {S : Sy} {E : List Ent} : ∀ {l : List A1} {vs : List Value}, All2 (@V1 S E) l vs → All2 (@V1 S E) (List.replicate l.length (.c 0)) vs
 | [], [], _ => trivial
 | x :: l, v :: vs, h => ⟨@V1.oneCell S E x v h.1, junk_all h.2⟩
theorem OK_junk {S : Sy} {E : List Ent} {w : World} {k : Nat} {l : List A1} {n : Nat} (hl : l.length = n) (h : @OK S E w k (.row 5 1 l)) : @OK S E w k (mkJ n) := by
 obtain ⟨b, c, h1, cs, fr, h2, h3, h4, h5, h6⟩ := h
 refine ⟨b, c, h1, cs, fr, h2, h3, h4, h5, ?_⟩
 subst hl
 rw [List.length_replicate]
 exact junk_all h6
theorem weak_new {S : Sy} {w0 : Base} {E : List Ent} {h : Hp} {w : World} {l : List A1} {n : Nat} (hl : l.length = n) (hn : h.n < 2 ^ Go.Ev.D) (hr : @Rep S w0 E (h.new (.row 5 1 l)) w) : @Rep S w0 E (h.new (mkJ n)) w := by
 refine Rep.weaken hr rfl (fun k o' hk ho => ?_)
 by_cases e : k = h.n
 · subst e
   have h1 : (h.new (mkJ n)).get h.n = some (mkJ n) := Tr.get_same Go.Ev.D h.t h.n _
   rw [h1] at ho
   injection ho with ho
   subst ho
   exact ⟨.row 5 1 l, Tr.get_same Go.Ev.D h.t h.n _, OK_junk hl⟩
 · have h1 : (h.new (mkJ n)).get k = h.get k := Tr.get_other Go.Ev.D h.t h.n k _ hn hk e
   have h2 : (h.new (.row 5 1 l)).get k = h.get k := Tr.get_other Go.Ev.D h.t h.n k _ hn hk e
   exact ⟨o', by rw [h2, ← h1]; exact ho, fun h => h⟩
theorem weak_del {S : Sy} {w0 : Base} {E : List Ent} {h : Hp} {w : World} {k : Nat} {o : AO} (hk : k < 2 ^ Go.Ev.D) (hr : @Rep S w0 E (h.put k o) w) : @Rep S w0 E (h.del k) w := by
 refine Rep.weaken hr rfl (fun j o' hj ho => ?_)
 by_cases e : j = k
 · subst e
   have h1 : (h.del j).get j = none := Tr.get_same Go.Ev.D h.t j _
   rw [h1] at ho
   cases ho
 · have h1 : (h.del k).get j = h.get j := Tr.get_other Go.Ev.D h.t k j _ hk hj e
   have h2 : (h.put k o).get j = h.get j := Tr.get_other Go.Ev.D h.t k j _ hk hj e
   exact ⟨o', by rw [h2, ← h1]; exact ho, fun h => h⟩
theorem Jk.eq_ok {x y : Jk} (h : x.eq y = true) : x = y := by
 obtain ⟨n, c, d, l⟩ := x
 obtain ⟨n', c', d', l'⟩ := y
 simp only [Jk.eq, Bool.and_eq_true] at h
 rw [Nat.eq_of_beq_eq_true h.1.1.1, Nat.eq_of_beq_eq_true h.1.1.2, Nat.eq_of_beq_eq_true h.1.2, Lin.eq_ok h.2]
theorem dO_mkJ (n : Nat) : @deepC (syW D q) (mkJ n) = mkJ n := by
 show AO.row 5 1 ((List.replicate n (A1.c 0)).map _) = _
 rw [List.map_replicate]
 rfl
theorem dO_J {i : Nat} {j : Jk} (h : decJ i = some j) : dO D q (.y i) = mkJ (j.len D) := by
 show @deepC (syW D q) (oW D q i) = _
 rw [oW_J h]
 exact dO_mkJ _
theorem pickJ_ok {j : Jk} {i : Nat} {o : AO} (h : pickJ j i = some o) : dO D q o = mkJ (j.len D) := by
 unfold pickJ at h
 cases hj : decJ i with
 | none => rw [hj] at h; cases h
 | some j' =>
  rw [hj] at h
  have h : (bif j.eq j' then some (AO.y i) else none) = some o := h
  have he := Jk.eq_ok (bif1 h).1
  have e := Option.some.inj (bif1 h).2
  rw [← e, dO_J hj, he]
theorem letterJ_ok {j : Jk} {o : AO} (h : letterJ j = some o) : dO D q o = mkJ (j.len D) := by
 unfold letterJ at h
 rw [fN_id] at h
 exact pickJ_ok h
theorem junkAt_ok {h : Hp} {k : Nat} {j : Jk} (hj : junkAt h k = some j) : (dH D q h).get k = some (mkJ (j.len D)) := by
 unfold junkAt at hj
 split at hj
 · rename_i i hg
   rw [get_dH hg, dO_J hj]
 · cases hj
/-! ### append, copy -/
set_option maxRecDepth 20000 in
theorem turns_appN {w0 : Base} {E : List Ent} {A : Fr} {n : Nat} {a : Act} {h : Hp} {w : World} (ha : @AR (syW D q) E A n a) (hr : @Rep (syW D q) w0 E h w) {o : Oper} {c : Call} {s x : A1} {u : Lt} {v : AV} {us : List U} (ho : o.op = .call c) (hc : c.callee = .builtin .append) (hx : allSome (oneL A) c.args.toList = some [s, x]) (ht : c.argTypes.toList = [23, 23])
  (hu : view K x = some u) (he : appN s u = some (v, us)) : @Turns (syW D q) Tryz.prog w0 E a w o v (apU h us) := by
 letI := syW D q
 have hxs := oneLs_ok hx
 have hxd := view_den (D := D) (q := q) hu
 unfold appN at he
 split at he
 · rename_i k o' z a' j
   have fin : (s = .nils ∨ ∃ k o n c, s = .sl k o n c) → (AV.v (.one s), ([] : List U)) = (v, us) → Turns Tryz.prog w0 E a w o v (apU h us) := by
    intro hs he
    injection he with g1 g2
    rw [← g1, ← g2]
    refine turns_undeep (turns_append0 (x := ov s.den) (y := ov x.den) (t := 23) (u := 23) ha.den hr.deep ho hc hxs ht ?_)
    rw [hxd]
    show evAppend0 Tryz.prog 23 23 (ov s.den) (ov (.stl k _ z _ _)) = some (ov s.den, [])
    unfold evAppend0
    simp only [if_true, el23, ov, s5, lenIn]
    rcases hs with rfl | ⟨k', o', n', c', rfl⟩ <;> rfl
   split at he
   · exact fin (.inl rfl) (Option.some.inj he)
   · exact fin (.inr ⟨_, _, _, _, rfl⟩) (Option.some.inj he)
   · cases he
 · cases he
set_option maxRecDepth 20000 in
/-- Bytes of another block appended: of what is made of it only the length is told. -/
theorem app_any {w0 : Base} {E : List Ent} {A : Fr} {n : Nat} {a : Act} {h : Hp} {w : World} (ha : @AR (syW D q) E A n a) (rd : @Rep (syW D q) w0 E h w) {o : Oper} {c : Call} {k m kb ob nb : Nat} {cb : CapE} {r l : List A1} {q0 : AO} (ho : o.op = .call c) (hc : c.callee = .builtin .append) (hx : allSome (evA A) c.args.toList = some [ov (.sl k 0 m (.un 0)), ov (.sl kb ob nb cb)]) (ht : c.argTypes.toList = [23, 23])
  (hgk : h.get k = some (.row 5 1 r)) (hmr : m ≤ r.length) (hgb : h.get kb = some q0) (hl : rowOf q0 = some l) (hfit : ob + nb ≤ l.length) (h0 : nb ≠ 0) (hbig : m + nb ≤ 100000) (hn : h.n < 2 ^ Go.Ev.D) : @Turns (syW D q) Tryz.prog w0 E a w o (ov (.sl h.n 0 (m + nb) (.un 0))) ((h.del k).new (mkJ (m + nb))) := by
 letI := syW D q
 have hcs : cellsIn h 1 (ov (.sl kb ob nb cb)) = some ((l.drop ob).take nb) := by
  unfold cellsIn ov
  simp only [hgb, hl, Option.bind_some, Nat.mul_one]
  unfold seg
  rw [if_pos hfit]
 have hlen : (r.take m ++ (l.drop ob).take nb).length = m + nb := by rw [List.length_append, List.length_take, List.length_take, List.length_drop]; omega
 have he : evAppend Tryz.prog h 23 23 (ov (.sl k 0 m (.un 0))) (ov (.sl kb ob nb cb)) = some (ov (.sl h.n 0 (m + nb) (.un 0)), [.del k, .new (.row 5 1 (r.take m ++ (l.drop ob).take nb))]) := by
  unfold evAppend
  simp only [if_true, el23, ov, s5] at hcs ⊢
  simp only [hcs, hgk]
  rw [if_neg h0]
  rw [if_pos (show True ∧ True ∧ m * 1 ≤ r.length from ⟨trivial, trivial, by omega⟩), Nat.mul_one]
  unfold mkRow
  simp only [z5, b5]
  rw [if_pos ⟨hn, rfl, by omega, by omega, by rw [hlen, Nat.mul_one]⟩]
  rfl
 obtain ⟨E', w', u, g1, g2, g3, g4⟩ := turns_append (P := Tryz.prog) ha rd ho hc hx ht he
 exact ⟨E', w', u, g1, weak_new hlen hn g2, g3, g4⟩
set_option maxRecDepth 20000 in
/-- Nothing appended; the block is told by a new name. -/
theorem app_none {w0 : Base} {E : List Ent} {A : Fr} {n : Nat} {a : Act} {h : Hp} {w : World} (ha : @AR (syW D q) E A n a) (rd : @Rep (syW D q) w0 E h w) {o : Oper} {c : Call} {k m kb ob zb ab jb : Nat} {r : List A1} (ho : o.op = .call c) (hc : c.callee = .builtin .append) (hx : allSome (evA A) c.args.toList = some [ov (.sl k 0 m (.un 0)), ov (.stl kb ob zb ab jb)]) (ht : c.argTypes.toList = [23, 23])
  (hgk : h.get k = some (.row 5 1 r)) (hmr : m ≤ r.length) (hn : h.n < 2 ^ Go.Ev.D) : @Turns (syW D q) Tryz.prog w0 E a w o (ov (.sl h.n 0 m (.un 0))) ((h.del k).new (mkJ m)) := by
 letI := syW D q
 obtain ⟨vs, vx, hvs, hvx, heq⟩ := args2 ha hx
 have hts := args_ty ht
 obtain ⟨b, cap, hk, e1, e2⟩ := hvs
 obtain ⟨b2, cap2, hk2, e3⟩ := hvx
 have e1 : vs = .slice (some ⟨b, 0, none⟩) m (cap - 0) := e1
 have e2 : m ≤ cap - 0 := e2
 obtain ⟨cur, fr, c1, c2, c3, c4, c5, c6⟩ := told_cells rd hk hgk hmr
 have hle : (List.replicate m (A1.c 0)).length = m := List.length_replicate
 have hj := junk_all c6
 rw [List.length_take, Nat.min_eq_left hmr] at hj
 refine ⟨_, w, .slice (some ⟨b, 0, none⟩) m (cap - 0), Pre.one E _, rd.renew (w' := w) hk hgk hn rd.below (Nat.le_refl _) (fun _ _ => rfl) (is_told c1 c2 c3 c4 (hj.imp (V1.ext (Ext.one E _))) (by rw [hle])), ⟨b, cap, last_new rd _, rfl, by simp only [capOf]; omega⟩, .inl ?_⟩
 have hrun := run_append_none (P := Tryz.prog) (w := w) (ty := o.type) (t := 23) (e := 5) (z := 1) t23 s5 (base := some ⟨b, 0, none⟩) (xb := some (if cap2 - jb = ab then ⟨b2, ob, none⟩ else ⟨b2, ob + ab * zb, none⟩)) (n := m) (cap := cap - 0) (c := cap2 - jb - ab) e2
 simp [execOp, ho, resolve, hc, heq, hts, invoke, builtin, e1, e3]
 simp only [Nat.sub_zero] at hrun
 rw [hrun]
 rfl
end
end Go.Ev
namespace Go.Ev
open Go Go.RowKit Go.Proofs
section
variable {D : D2} {K : Kd} {q : Nat → Nat}
theorem toldB_ok {h : Hp} {k m : Nat} (ht : toldB h k m = true) : ∃ r, (dH D q h).get k = some (.row 5 1 r) ∧ m ≤ r.length := by
 unfold toldB at ht
 split at ht
 · rename_i r hg
   refine ⟨r.map (@A1.den (syW D q)), ?_, by rw [List.length_map]; exact Nat.le_of_ble_eq_true ht⟩
   rw [get_dH hg]
   rfl
 · cases ht
theorem turns_appP (hK : KdOk K D) {w0 : Base} {E : List Ent} {A : Fr} {n : Nat} {a : Act} {h : Hp} {w : World} (ha : @AR (syW D q) E A n a) (hr : @Rep (syW D q) w0 E h w) {o : Oper} {c : Call} {s x : A1} {u : Lt} {v : AV} {us : List U} (ho : o.op = .call c) (hc : c.callee = .builtin .append) (hx : allSome (oneL A) c.args.toList = some [s, x]) (ht : c.argTypes.toList = [23, 23])
  (hu : view K x = some u) (he : appP K h s u = some (v, us)) : @Turns (syW D q) Tryz.prog w0 E a w o v (apU h us) := by
 letI := syW D q
 have hxs := oneLs_ok hx
 have hxd := view_den (D := D) (q := q) hu
 have hwu := (view_ok (D := D) (q := q) hu).2
 have rd := hr.deep
 unfold appP at he
 split at he
 · rename_i k o' n' j hv
   split at he
   · rename_i m hm
     have hz := (bif1 he).1
     replace he := (bif1 he).2
     simp only [Bool.and_eq_true] at hz
     obtain ⟨⟨⟨⟨⟨z1, z2⟩, z3⟩, z4⟩, z5'⟩, z6⟩ := hz
     have z4 := Nat.le_of_ble_eq_true z4
     have hn : h.n < 2 ^ Go.Ev.D := Nat.le_of_ble_eq_true z5'
     obtain ⟨r, hgk, hmr⟩ := toldB_ok (D := D) (q := q) z6
     have hsd : s.den = .sl k 0 m (.un 0) := by
      rw [view_den (D := D) (q := q) hv]
      show A1.sl k (o'.val D).toNat (n'.val D).toNat (.un (j.val D).toNat) = _
      rw [val_z z1, val_z z2, natK_ok (D := D) hm]
      rfl
     have hxs : allSome (evA (denF A)) c.args.toList = some [ov (.sl k 0 m (.un 0)), ov x.den] := by rw [hxs, ← hsd]; rfl
     have fin : ∀ (N : Nat) (y : A1) (ob : AO), y.den = .sl h.n 0 N (.un 0) → dO D q ob = mkJ N → (AV.v (.one y), [U.del k, U.new ob]) = (v, us) → Turns Tryz.prog w0 E a w o (ov (.sl h.n 0 N (.un 0))) (((dH D q h).del k).new (mkJ N)) → Turns Tryz.prog w0 E a w o v (apU h us) := by
      intro N y ob hy hob e ht
      injection e with e1 e2
      rw [← e1, ← e2]
      refine turns_undeep ?_
      show Turns Tryz.prog w0 E a w o (ov y.den) (((dH D q h).del k).new (dO D q ob))
      rw [hy, hob]
      exact ht
     split at he
     · rename_i kb cc dd l
       split at he
       · rename_i p hp
         have hz := (bif1 he).1
         replace he := (bif1 he).2
         rw [Bool.and_eq_true] at hz
         have hge := ge_ok hK hz.2
         split at he
         · rename_i y ob h1 h2
           cases hgb : h.get kb with
           | none => simp [hgb] at hp
           | some q0 =>
            simp only [hgb, Option.bind_some] at hp
            obtain ⟨t, mm⟩ := p
            obtain ⟨o1, o2, _⟩ := viewO_ok (q := q) hK hp
            rw [val_sub, lenS_ok (q := q) hK o2] at hge
            have hwf : (l.ge K 0 && Nat.blt cc dd && Nat.ble dd 4095) = true := hwu
            simp only [Bool.and_eq_true] at hwf
            have l0 := ge_ok hK hwf.1.1
            have hcd : cc < dd := Nat.le_of_ble_eq_true hwf.1.2
            have hd := Nat.le_of_ble_eq_true hwf.2
            refine fin (m + (Nat.min dd (l.val D).toNat - Nat.min cc (l.val D).toNat)) y ob (letter_ok (D := D) (q := q) h1) (letterJ_ok (D := D) (q := q) h2) (Option.some.inj he) ?_
            have hxden : x.den = if Nat.min cc (l.val D).toNat = (l.val D).toNat then .stl kb 0 1 (l.val D).toNat 0 else .sl kb (Nat.min cc (l.val D).toNat) (Nat.min dd (l.val D).toNat - Nat.min cc (l.val D).toNat) (.un (Nat.min cc (l.val D).toNat)) := hxd
            rw [hxden] at hxs
            have hle : Nat.min dd (l.val D).toNat ≤ (l.val D).toNat := Nat.min_le_right _ _
            have hle2 : Nat.min dd (l.val D).toNat ≤ dd := Nat.min_le_left _ _
            by_cases hcase : Nat.min cc (l.val D).toNat = (l.val D).toNat
            · rw [if_pos hcase] at hxs
              rw [show Nat.min dd (l.val D).toNat - Nat.min cc (l.val D).toNat = 0 by omega, Nat.add_zero]
              exact app_none ha.den rd ho hc hxs ht hgk hmr hn
            · rw [if_neg hcase] at hxs
              have hcl : Nat.min cc (l.val D).toNat = cc := by
               rcases Nat.le_total cc (l.val D).toNat with h9 | h9
               · exact Nat.min_eq_left h9
               · exact absurd (Nat.min_eq_right h9) hcase
              have hlt : cc < (l.val D).toNat := by
               rcases Nat.lt_or_ge cc (l.val D).toNat with h9 | h9
               · exact h9
               · exact absurd (Nat.min_eq_right h9) hcase
              have hdl : cc < Nat.min dd (l.val D).toNat := Nat.lt_min.2 ⟨hcd, hlt⟩
              exact app_any ha.den rd ho hc hxs ht hgk hmr (get_dH hgb) (by rw [o1]; exact rowOf_mkO _ _) (by rw [cellsU_len]; omega) (by omega) (by omega) hn
         · cases he
       · cases he
     · rename_i kb o2' n2 jj
       have hz := (bif1 he).1
       replace he := (bif1 he).2
       simp only [Bool.and_eq_true] at hz
       obtain ⟨⟨⟨y1, y2⟩, y3⟩, y4⟩ := hz
       have y2 := ge_ok hK y2
       have y3 := le_ok hK y3
       have y4 := ge_ok hK y4
       split at he
       · rename_i p hp
         have hge := ge_ok hK (bif1 he).1
         replace he := (bif1 he).2
         split at he
         · rename_i y ob h1 h2
           cases hgb : h.get kb with
           | none => simp [hgb] at hp
           | some q0 =>
            simp only [hgb, Option.bind_some] at hp
            obtain ⟨t, mm⟩ := p
            obtain ⟨o1, o2, _⟩ := viewO_ok (q := q) hK hp
            rw [val_sub, val_add, lenS_ok (q := q) hK o2] at hge
            obtain ⟨oN, p1, p2⟩ := toN y4
            obtain ⟨nN, p3, p4⟩ := toN (by omega : 0 ≤ n2.val D)
            have hxden : x.den = .sl kb (o2'.val D).toNat (n2.val D).toNat (.un (jj.val D).toNat) := hxd
            rw [hxden, p2, p4] at hxs
            have hlenJ : Jk.len D ⟨m, 0, 4095, n2⟩ = m + nN := by
             show m + (Nat.min 4095 (n2.val D).toNat - Nat.min 0 (n2.val D).toNat) = _
             rw [p4, show Nat.min 4095 nN = nN from Nat.min_eq_right (by omega), show Nat.min 0 nN = 0 from Nat.zero_min _]
             rfl
            refine fin (m + nN) y ob ?_ (by rw [letterJ_ok (D := D) (q := q) h2, hlenJ]) (Option.some.inj he) ?_
            · refine (back_ok (D := D) (q := q) h1).trans ?_
              show A1.sl h.n ((Lin.k 0).val D).toNat (((Lin.k m).add n2).val D).toNat (.un ((Lin.k 0).val D).toNat) = _
              rw [val_add, val_k, val_k, p3]
              congr 1
            · exact app_any ha.den rd ho hc hxs ht hgk hmr (get_dH hgb) (by rw [o1]; exact rowOf_mkO _ _) (by rw [cellsU_len]; omega) (by omega) (by omega) hn
         · cases he
       · cases he
     · cases he
   · cases he
 · cases he
theorem cellsB_ok {h : Hp} {k : Nat} {n : Int} (ht : cellsB h k n = true) : ∃ r, (dH D q h).get k = some (.cells 5 r) ∧ (r.length : Int) = n := by
 unfold cellsB at ht
 split at ht
 · rename_i r hg
   refine ⟨r.map (@A1.den (syW D q)), ?_, by rw [List.length_map]; exact eqI_ok ht⟩
   rw [get_dH hg]
   rfl
 · cases ht
set_option maxRecDepth 20000 in
/-- What is not told, copied over a whole block or its begin. -/
theorem copy_any {w0 : Base} {E : List Ent} {A : Fr} {n : Nat} {a : Act} {h : Hp} {w : World} (ha : @AR (syW D q) E A n a) (rd : @Rep (syW D q) w0 E h w) {o : Oper} {c : Call} {k Q C kx N : Nat} {r : List A1} (ho : o.op = .call c) (hc : c.callee = .builtin .copy) (hx : allSome (evA A) c.args.toList = some [ov (.sl k 0 Q (.ex C)), ov (.sl kx 0 N (.un 0))]) (ht : ∃ l, c.argTypes.toList = 23 :: l)
  (hgk : h.get k = some (.cells 5 r)) (hr : r.length = Q) (hgx : h.get kx = some (mkJ N)) (hN : N ≤ Q) : @Turns (syW D q) Tryz.prog w0 E a w o (ov (.i .i64 (N : Nat))) (h.del k) := by
 letI := syW D q
 obtain ⟨l, ht⟩ := ht
 have hcs : cellsIn h 1 (ov (.sl kx 0 N (.un 0))) = some (List.replicate N (.c 0)) := by
  unfold cellsIn ov
  simp only [hgx, Option.bind_some, Nat.mul_one]
  show seg (List.replicate N (.c 0)) 0 N = _
  unfold seg
  rw [if_pos (by rw [List.length_replicate]; omega), List.drop_zero, List.take_of_length_le (by rw [List.length_replicate]; exact Nat.le_refl _)]
 have he : evCopy Tryz.prog h 23 (ov (.sl k 0 Q (.ex C))) (ov (.sl kx 0 N (.un 0))) = some (ov (.i .i64 (N : Nat)), [.put k (.cells 5 (List.replicate N (.c 0) ++ r.drop N))]) := by
  unfold evCopy
  simp only [el23, ov, s5] at hcs ⊢
  simp only [hcs, hgk, rowOf]
  rw [show Nat.min N Q = N from Nat.min_eq_left hN, Nat.mul_one, List.take_of_length_le (by rw [List.length_replicate]; exact Nat.le_refl _)]
  have hov : over r 0 (List.replicate N (.c 0)) = some (List.replicate N (.c 0) ++ r.drop N) := by
   unfold over
   rw [List.length_replicate, if_pos (by omega), List.take_zero, List.nil_append, Nat.zero_add]
  rw [hov]
  rfl
 have hk : k < h.n := by
  obtain ⟨vs, vx, hvs, hvx, heq⟩ := args2 ha hx
  obtain ⟨b, cap, hk, _⟩ := hvs
  exact lt_of_get rd hk
 have hef : evEff Tryz.prog A h o = some (ov (.i .i64 (N : Nat)), [.put k (.cells 5 (List.replicate N (.c 0) ++ r.drop N))]) := by
  obtain ⟨dst, op, ty, pos, after, guard⟩ := o
  have ho : op = .call c := ho
  subst ho
  simp only [evEff, hc, hx, ht]
  exact he
 obtain ⟨E', w', u, g1, g2, g3, g4⟩ := evEff_ok ha rd hef
 exact ⟨E', w', u, g1, weak_del (Nat.lt_of_lt_of_le hk rd.bound) g2, g3, g4⟩
theorem turns_copyP (hK : KdOk K D) {w0 : Base} {E : List Ent} {A : Fr} {n : Nat} {a : Act} {h : Hp} {w : World} (ha : @AR (syW D q) E A n a) (hr : @Rep (syW D q) w0 E h w) {o : Oper} {c : Call} {s x : A1} {u0 u : Lt} {v : AV} {us : List U} (ho : o.op = .call c) (hc : c.callee = .builtin .copy) (hx : allSome (oneL A) c.args.toList = some [s, x]) (ht : ∃ l, c.argTypes.toList = 23 :: l)
  (hu0 : view K s = some u0) (hu : view K x = some u) (he : copyP K h u0 u = some (v, us)) : @Turns (syW D q) Tryz.prog w0 E a w o v (apU h us) := by
 letI := syW D q
 have hxs := oneLs_ok hx
 have hxd := view_den (D := D) (q := q) hu
 have hsd := view_den (D := D) (q := q) hu0
 have hwu := (view_ok (D := D) (q := q) hu).2
 have hwu0 := (view_ok (D := D) (q := q) hu0).2
 have rd := hr.deep
 unfold copyP at he
 split at he
 · rename_i k o' qn cn
   have hz := (bif1 he).1
   replace he := (bif1 he).2
   simp only [Bool.and_eq_true] at hz
   obtain ⟨⟨z1, z2⟩, z3⟩ := hz
   obtain ⟨r, hgk, hrl⟩ := cellsB_ok (D := D) (q := q) z3
   have hqv : qn.val D = r.length := by rw [val_const z2]; exact hrl.symm
   have hsd : s.den = .sl k 0 r.length (.ex (cn.val D).toNat) := by
    rw [hsd]
    show A1.sl k (o'.val D).toNat (qn.val D).toNat (.ex (cn.val D).toNat) = _
    rw [val_z z1, hqv]
    rfl
   have fin : ∀ (N : Nat) (y : A1) (kx : Nat), y.den = .i .i64 (N : Nat) → x.den = .sl kx 0 N (.un 0) → (dH D q h).get kx = some (mkJ N) → N ≤ r.length → (AV.v (.one y), [U.del k]) = (v, us) → Turns Tryz.prog w0 E a w o v (apU h us) := by
    intro N y kx hy hxe hgx hN e
    injection e with e1 e2
    rw [← e1, ← e2]
    refine turns_undeep ?_
    show Turns Tryz.prog w0 E a w o (ov y.den) ((dH D q h).del k)
    rw [hy]
    refine copy_any (C := (cn.val D).toNat) ha.den rd ho hc ?_ ht hgk rfl hgx hN
    rw [hxs, ← hsd, ← hxe]
    rfl
   split at he
   · rename_i kx nn cc dd l
     split at he
     · rename_i j hj
       have hz := (bif1 he).1
       replace he := (bif1 he).2
       simp only [Bool.and_eq_true] at hz
       have hjeq := Jk.eq_ok hz.1.2
       have hle := geI_ok hz.1.1
       have hmd := mdHi_ok hK cc dd l
       cases hy : letter (.plc nn cc dd l) with
       | none => simp [hy] at he
       | some y =>
        rw [hy] at he
        have hle : ((nn + mdHi K cc dd l : Nat) : Int) ≤ qn.c := hle
        rw [val_const z2] at hqv
        refine fin (nn + (Nat.min dd (l.val D).toNat - Nat.min cc (l.val D).toNat)) y kx (letter_ok (D := D) (q := q) hy) hxd ?_ (by omega) (Option.some.inj he)
        rw [junkAt_ok (D := D) (q := q) hj, hjeq]
        rfl
     · cases he
   · rename_i kx o2 n2 i2
     split at he
     · rename_i j hj
       have hz := (bif1 he).1
       replace he := (bif1 he).2
       simp only [Bool.and_eq_true] at hz
       obtain ⟨⟨⟨⟨⟨⟨⟨y1, y2⟩, y3⟩, y4⟩, y5⟩, y6⟩, y7⟩, y8⟩ := hz
       have y3 := ge_ok hK y3
       rw [val_sub] at y3
       have y4 := Nat.eq_of_beq_eq_true y4
       have y5 := Nat.eq_of_beq_eq_true y5
       have y6 := le_ok hK y6
       have y7 := ge_ok hK y7
       have y8 := Lin.eq_ok y8
       obtain ⟨lN, p1, p2⟩ := toN y7
       have hn2 : n2.val D = (j.n + lN : Nat) := by
        rw [y8, val_add, val_k, p1]
        omega
       cases hy : back (.num .i64 n2) with
       | none => simp [hy] at he
       | some y =>
        rw [hy] at he
        refine fin (j.n + lN) y kx ?_ ?_ ?_ (by omega) (Option.some.inj he)
        · refine (back_ok (D := D) (q := q) hy).trans ?_
          show A1.i .i64 (n2.val D) = _
          rw [hn2]
        · rw [hxd]
          show A1.sl kx (o2.val D).toNat (n2.val D).toNat (.un (i2.val D).toNat) = _
          rw [val_z y1, val_z y2, hn2]
          rfl
        · rw [junkAt_ok (D := D) (q := q) hj]
          have : j.len D = j.n + lN := by
           show j.n + (Nat.min j.d (j.l.val D).toNat - Nat.min j.c (j.l.val D).toNat) = _
           rw [y4, y5, p2, show Nat.min 4095 lN = lN from Nat.min_eq_right (by omega), show Nat.min 0 lN = 0 from Nat.zero_min _]
           rfl
          rw [this]
     · cases he
   · cases he
 · cases he
theorem bind1 {α β : Type} {x : Option α} {f : α → Option β} {r : β} (h : x.bind f = some r) : ∃ a, x = some a ∧ f a = some r := by
 cases x with
 | none => cases h
 | some a => exact ⟨a, rfl, h⟩
theorem r1_ok {x : Option A1} {v : AV} {us : List U} (h : r1 x = some (v, us)) : ∃ a, x = some a ∧ v = .v (.one a) ∧ us = [] := by
 unfold r1 at h
 cases x with
 | none => cases h
 | some a =>
  injection h with h
  injection h with h1 h2
  exact ⟨a, rfl, h1.symm, h2.symm⟩
theorem b2s_ok (hK : KdOk K D) {h : Hp} {u : Lt} {l : List Sym} {r : A1} (hw : wfL K u = true) (hb : bytesAt K h u = some l) (hr : back (.str l) = some r) : evConvM Tryz.prog (dH D q h) 23 9 (ov (u.den D q)) = some (ov (dW D q r), []) := by
 obtain ⟨k, o, n, c, h1, h2, h3, h4⟩ := bytesAt_ok (q := q) hK hw hb
 rw [h1, back_ok (D := D) (q := q) hr]
 unfold evConvM
 simp only [t23, t9, t5, ov] at h2 ⊢
 simp only [h2]
 rw [u8s_cells _ (strB_lt hK h4)]
 rfl
set_option maxRecDepth 20000 in
theorem s2b_ok (hK : KdOk K D) {h : Hp} {l : List Sym} {v : AV} {us : List U} (hw : wfS K l = true) (hx : newRow K h l [] = some (v, us)) : evConvM Tryz.prog (dH D q h) 9 23 (ov (.s (strB D q l))) = some (@denV (syW D q) v, us.map (@deepU (syW D q))) := by
 obtain ⟨x, o, e1, e2, e3, e4, e5, e6⟩ := newRow_ok (q := q) hK hw hx
 rw [e1, e2]
 unfold evConvM
 simp only [t23, t9, t5, ov]
 rw [if_pos ⟨e6, by omega, trivial⟩]
 show some (AV.v (.one (.sl h.n 0 (strB D q l).length (.un 0))), [U.new (.row 5 1 (cellsU (strB D q l)))]) = some (AV.v (.one (dW D q x)), [U.new (dO D q o)])
 rw [e3, e4]
set_option maxRecDepth 20000 in
theorem ruW_ok (hK : KdOk K D) (hq : qOk q) {w0 : Base} : @RuOk (syW D q) Tryz.prog w0 (ruW K) := by
 letI := syW D q
 intro A n h o v us hx E a w ha hr
 unfold ruW at hx
 split at hx
 · rename_i r h1
   injection hx with hx
   injection hx with e1 e2
   rw [← e1, ← e2]
   exact turns_pure ha hr (pureW_ok hK hq h1)
 · rename_i hnone
   clear hnone
   obtain ⟨dst, op, ty, pos, after, guard⟩ := o
   unfold memW at hx
   simp only at hx
   split at hx
   · rename_i x
     obtain ⟨a', h1, hx⟩ := bind1 hx
     obtain ⟨u, h2, hx⟩ := bind1 hx
     obtain ⟨r, h3, rfl, rfl⟩ := r1_ok hx
     have e1 := oneL_ok h1
     refine turns_readD ha hr ?_
     show ((evA (denF A) x).bind fun v => evLoad Tryz.prog 5 v (deepH h)) = _
     rw [e1, view_den (D := D) (q := q) h2]
     exact lodL_ok hK (view_ok (D := D) (q := q) h2).2 h3
   · rename_i x
     obtain ⟨a', h1, hx⟩ := bind1 hx
     obtain ⟨u, h2, hx⟩ := bind1 hx
     obtain ⟨l, h3, hx⟩ := bind1 hx
     obtain ⟨r, h4, rfl, rfl⟩ := r1_ok hx
     have e1 := oneL_ok h1
     refine turns_effD ha hr ?_
     show ((evA (denF A) x).bind fun a => evConvM Tryz.prog (deepH h) 23 9 a) = _
     rw [e1, view_den (D := D) (q := q) h2]
     exact b2s_ok hK (view_ok (D := D) (q := q) h2).2 h3 h4
   · rename_i x
     obtain ⟨a', h1, hx⟩ := bind1 hx
     split at hx
     · rename_i l h2
       have e1 := oneL_ok h1
       refine turns_effD ha hr ?_
       show ((evA (denF A) x).bind fun a => evConvM Tryz.prog (deepH h) 9 23 a) = _
       rw [e1, view_den (D := D) (q := q) h2]
       exact s2b_ok hK (wf_str (view_ok (D := D) (q := q) h2).2) hx
     · cases hx
   · rename_i l c
     split at hx
     · rename_i a' b' h1 h2
       split at hx
       · rename_i u u' h3 h4
         have e1 := oneL_ok h1
         have e2 := oneL_ok h2
         refine turns_effD ha hr ?_
         show ((evA (denF A) l).bind fun a => (evA (denF A) c).bind fun b => evMakeSlice Tryz.prog (deepH h) 23 a b) = _
         rw [e1, e2, view_den (D := D) (q := q) h3, view_den (D := D) (q := q) h4]
         exact mkL_ok hK hx
       · cases hx
     · cases hx
   · rename_i c
     split at hx
     · rename_i s x hc hxs hts
       obtain ⟨u, h1, hx⟩ := bind1 hx
       split at hx
       · rename_i r hr1
         injection hx with hx
         subst hx
         exact turns_appN ha hr rfl hc hxs hts h1 hr1
       · split at hx
         · rename_i r hr1
           injection hx with hx
           subst hx
           have e1 := oneLs_ok hxs
           refine turns_effD ha hr ?_
           simp only [evEff, hc, e1, hts, List.map_cons, List.map_nil]
           rw [view_den (D := D) (q := q) h1]
           exact appL_ok hK (x' := x) (view_ok (D := D) (q := q) h1).2 hr1
         · exact turns_appP hK ha hr rfl hc hxs hts h1 hx
     · rename_i s x hc hxs hts
       obtain ⟨u, h1, hx⟩ := bind1 hx
       exact turns_appZ hK ha hr rfl hc hxs hts h1 hx
     · rename_i d x l hc hxs hts
       split at hx
       · rename_i u0 u h1 h2
         split at hx
         · rename_i r hr1
           injection hx with hx
           subst hx
           have e1 := oneLs_ok hxs
           refine turns_effD ha hr ?_
           simp only [evEff, hc, e1, hts, List.map_cons, List.map_nil]
           rw [view_den (D := D) (q := q) h1, view_den (D := D) (q := q) h2]
           exact copyL_ok hK (view_ok (D := D) (q := q) h1).2 (view_ok (D := D) (q := q) h2).2 hr1
         · exact turns_copyP hK ha hr rfl hc hxs ⟨_, hts⟩ h1 h2 hx
       · cases hx
     · cases hx
   · cases hx
end
end Go.Ev
namespace Go.Ev
open Go Go.RowKit Go.Proofs
section
variable {D : D2} {K : Kd} {q : Nat → Nat}
theorem CallDoes.undeep {S : Sy} {P : Program} {w0 : Base} {E : List Ent} {f : Nat} {vs : Array Value} {w : World} {y : AV} {h' : Hp} (h : @CallDoes S P w0 E f vs w (@denV S y) (@deepH S h')) : @CallDoes S P w0 E f vs w y h' := by
 rcases h with ⟨h1, h2⟩ | ⟨v, h1, h2, h3⟩
 · refine .inl ⟨h1, h2.mono ?_⟩
   rintro e w' ⟨v, rfl, E', h3, h4, h5⟩
   exact ⟨v, rfl, E', h3, Rep.undeep h4, (VV_den E' y v).2 h5⟩
 · exact .inr ⟨v, h1, (VV_den E y v).2 h2, Rep.undeep h3⟩
/-! ### What is taken ahead -/
theorem u8s_det (l : List Nat) : ∀ x ∈ cellsU l, det x = true := by
 intro x hx
 unfold cellsU at hx
 obtain ⟨n, _, rfl⟩ := List.mem_map.1 hx
 rfl
theorem rpW_ok (hK : KdOk K D) (hq : qOk q) : @RpOk (syW D q) Tryz.prog (rpW K) := by
 letI := syW D q
 intro A n h o v d hx E a ha
 unfold rpW at hx
 split at hx
 · rename_i r h1
   injection hx with hx
   injection hx with e1 e2
   rw [← e1, ← e2]
   exact .inl ⟨rfl, gives_den ha (pureW_ok hK hq h1)⟩
 · rename_i hnone
   clear hnone
   obtain ⟨dst, op, ty, pos, after, guard⟩ := o
   simp only at hx
   split at hx
   · rename_i x
     split at hx
     · rename_i p h1
       have fin : ∀ (u : Lt) (k : Nat) (o' n' : Nat) (cp : CapE) (c : Nat), view K p = some u → u.den D q = .sl k o' n' cp → h.get k = some (.y c) → ((bytesAt K h u).bind fun l => (back (.str l)).map fun r => (AV.v (.one r), some (k, c))) = some (v, d) → (∃ t l0, viewO K (.y c) = some (t, l0)) →
        (d = none ∧ Gives Tryz.prog E a ⟨dst, .convert 23 9 x, ty, pos, after, guard⟩ v) ∨ ∃ k c l, d = some (k, c) ∧ rowOf (Sy.o c) = some l ∧ (∀ x ∈ l, det x = true) ∧ (∃ b cap, E[k]? = some (.blk b cap)) ∧ GivesL Tryz.prog E a ⟨dst, .convert 23 9 x, ty, pos, after, guard⟩ v k l := by
        intro u k o' n' cp c hu hden hg hx hvo
        obtain ⟨l, hb, hx⟩ := bind1 hx
        cases hr : back (.str l) with
        | none => simp [hr] at hx
        | some r =>
         rw [hr] at hx
         injection hx with hx
         injection hx with e1 e2
         obtain ⟨t, l0, hvo⟩ := hvo
         have hdo : decO c = some (t, l0) := by
          unfold viewO at hvo
          simp only at hvo
          cases hd : decO c with
          | none => rw [hd] at hvo; cases hvo
          | some pr =>
           obtain ⟨t', l'⟩ := pr
           rw [hd] at hvo
           have e := Option.some.inj (bif1 hvo).2
           rw [e]
         obtain ⟨_, hw0, _⟩ := viewO_ok (D := D) (q := q) hK hvo
         have ho : Sy.o c = mkO t (strB D q l0) := oW_O hdo
         have he1 := oneL_ok h1
         have hv1 := evA_ok ha.den x _ he1
         have hv1 : V1 E p.den (a.eval x) := hv1
         rw [view_den (D := D) (q := q) hu, hden] at hv1
         obtain ⟨b, cap, hk, ev, hle⟩ := hv1
         obtain ⟨k2, o2, n2, c2, d1, d2, d3, d4⟩ := bytesAt_ok (q := q) hK (view_ok (D := D) (q := q) hu).2 hb
         rw [hden] at d1
         injection d1 with a1 a2 a3 a4
         subst a1; subst a2; subst a3; subst a4
         have hgd : (dH D q h).get k = some (mkO t (strB D q l0)) := by
          rw [get_dH hg, ← dO_mkO (D := D) (q := q) t (strB D q l0), ← ho]
          rfl
         have hseg : seg (cellsU (strB D q l0)) o' n' = some (cellsU (strB D q l)) := by
          unfold cellsIn ov at d2
          simp only [hgd, Option.bind_some, rowOf_mkO, Nat.mul_one] at d2
          exact d2
         obtain ⟨hfit, hsl⟩ := seg_ok hseg
         refine .inr ⟨k, c, cellsU (strB D q l0), e2.symm, by rw [ho]; exact rowOf_mkO _ _, u8s_det _, ⟨b, cap, hk⟩, ?_⟩
         intro b' cap' hk' vs hvs
         rw [hk] at hk'
         injection hk' with hk'
         injection hk' with f1 f2
         subst f1; subst f2
         obtain ⟨g1, g2⟩ := u8s_ok hvs (u8s_cells _ (strB_lt hK hw0))
         refine ⟨.string (bytes (strB D q l)), ?_, fun w hra => ?_⟩
         · rw [← e1]
           refine (VV_den E _ _).2 ?_
           show V1 E r.den _
           rw [show r.den = .s (strB D q l) from back_ok (D := D) (q := q) hr]
           exact ⟨rfl, strB_lt hK d4⟩
         · have hbl : strB D q l = ((strB D q l0).drop o').take n' := by
            have h5 : cellsU (strB D q l) = cellsU (((strB D q l0).drop o').take n') := by rw [hsl, cellsU_drop, cellsU_take]
            have h6 := congrArg u8s h5
            rw [u8s_cells _ (strB_lt hK d4), u8s_cells _ (fun x hx => strB_lt hK hw0 x (List.mem_of_mem_drop (List.mem_of_mem_take hx)))] at h6
            exact Option.some.inj h6
           refine run_b2s (w := w) (a := a) (o := ⟨dst, .convert 23 9 x, ty, pos, after, guard⟩) rfl ev t23 t9 t5 d3.symm (strB_lt hK d4) ?_
           rw [hbl]
           intro j u hj
           rw [List.getElem?_map, List.getElem?_take] at hj
           split at hj
           · rename_i hjn
             rw [List.getElem?_drop] at hj
             have := hra (o' + j) u (by rw [g1, List.getElem?_map]; exact hj)
             rwa [Nat.zero_add] at this
           · cases hj
       split at hx
       · rename_i k o' n' j hv
         split at hx
         · rename_i c hg
           refine fin _ k _ _ _ c hv rfl hg hx ?_
           obtain ⟨l, hb, _⟩ := bind1 hx
           have hb : (((h.get k).bind (viewO K)).bind fun q => segS K q.2 o' n') = some l := hb
           rw [hg, Option.bind_some] at hb
           obtain ⟨pr, hp, _⟩ := bind1 hb
           exact ⟨pr.1, pr.2, hp⟩
         · cases hx
       · rename_i k o' n' j hv
         split at hx
         · rename_i c hg
           refine fin _ k _ _ _ c hv rfl hg hx ?_
           obtain ⟨l, hb, _⟩ := bind1 hx
           have hb : (((h.get k).bind (viewO K)).bind fun q => segS K q.2 o' n') = some l := hb
           rw [hg, Option.bind_some] at hb
           obtain ⟨pr, hp, _⟩ := bind1 hb
           exact ⟨pr.1, pr.2, hp⟩
         · cases hx
       · cases hx
     · cases hx
   · rename_i x
     split at hx
     · rename_i p h1
       split at hx
       · rename_i k o' hv
         split at hx
         · rename_i c hg
           cases hr : lodL K h (.ptr k o') with
           | none => simp [hr] at hx
           | some r =>
            rw [hr] at hx
            injection hx with hx
            injection hx with e1 e2
            have hr2 : ((h.get k).bind (viewO K)).bind (fun q => cellS K q.2 o') = some r := hr
            rw [hg, Option.bind_some] at hr2
            obtain ⟨pr, hvo, hr2⟩ := bind1 hr2
            obtain ⟨t, l0⟩ := pr
            have hdo : decO c = some (t, l0) := by
             unfold viewO at hvo
             simp only at hvo
             cases hd : decO c with
             | none => rw [hd] at hvo; cases hvo
             | some pr =>
              obtain ⟨t', l'⟩ := pr
              rw [hd] at hvo
              have e := Option.some.inj (bif1 hvo).2
              rw [e]
            obtain ⟨_, hw0, _⟩ := viewO_ok (D := D) (q := q) hK hvo
            have ho : Sy.o c = mkO t (strB D q l0) := oW_O hdo
            obtain ⟨n, hn, hcell⟩ := cellS_ok (q := q) hK hw0 hr2
            have hv1 := evA_ok ha.den x _ (oneL_ok h1)
            have hv1 : V1 E p.den (a.eval x) := hv1
            rw [view_den (D := D) (q := q) hv] at hv1
            obtain ⟨b, cap, hk, ev⟩ := hv1
            refine .inr ⟨k, c, cellsU (strB D q l0), e2.symm, by rw [ho]; exact rowOf_mkO _ _, u8s_det _, ⟨b, cap, hk⟩, ?_⟩
            intro b' cap' hk' vs hvs
            rw [hk] at hk'
            injection hk' with hk'
            injection hk' with f1 f2
            subst f1; subst f2
            obtain ⟨u, hu1, hu2⟩ := hvs.get n _ hcell
            refine ⟨u, ?_, fun w hra => ?_⟩
            · rw [← e1]
              refine (VV_den E _ _).2 ?_
              exact hu2
            · have hc : w.cell? ⟨b, (o'.val D).toNat, none⟩ = some u := by
               have h9 := hra n u hu1
               rw [hn]
               simpa using h9
              have hag : isAggT Tryz.prog 5 = some false := by kernel_rfl
              simp [execOp, ev, Instr.loadAt, Instr.sureAddr, loadVar, run_agg hag, run_load, hc]
         · cases hx
       · cases hx
     · cases hx
   · cases hx
end
end Go.Ev
namespace Go.Ev
open Go Go.RowKit Go.Proofs
/-- A row: a call of which function, of what; where memory is read: at which name, which object; what it gives. Memory stays. -/
structure Xl where
 f : Nat
 xs : List AV
 at_ : Option (Nat × Nat)
 y : AV
def findX_ {α : Type} (f : Xl → Option α) : List Xl → Option α
 | [] => none
 | e :: l => match f e with
   | some r => some r
   | none => findX_ f l
def exT (tab : List Xl) (ex : CallT) : CallT := fun f xs h => match findX_ (fun e => bif Nat.beq f e.f then (if xs = e.xs then (match e.at_ with | none => some e.y | some p => if h.get p.1 = some (.y p.2) then some e.y else none) else none) else none) tab with
 | some y => some (y, h)
 | none => ex f xs h
variable [Sy]
section
variable {w0 : Base} {P : Program}
def XlOk (P : Program) (w0 : Base) (e : Xl) : Prop := ∀ (h : Hp), (∀ p, e.at_ = some p → h.get p.1 = some (Sy.o p.2)) → ∀ (E : List Ent) (w : World) (vs : List Value), All2 (VV E) (e.xs.map denV) vs → Rep w0 E h w → CallDoes P w0 E e.f vs.toArray w (denV e.y) h
theorem findX_ok_ {α : Type} {f : Xl → Option α} {r : α} : ∀ {l : List Xl}, findX_ f l = some r → ∃ e ∈ l, f e = some r
 | [], h => by cases h
 | e :: l, h => by
  unfold findX_ at h
  cases hf : f e with
  | some q =>
   simp only [hf] at h
   cases h
   exact ⟨e, List.mem_cons_self, hf⟩
  | none =>
   simp only [hf] at h
   obtain ⟨e', h1, h2⟩ := findX_ok_ h
   exact ⟨e', List.mem_cons_of_mem _ h1, h2⟩
theorem CallDoes.undenote {E : List Ent} {f : Nat} {vs : Array Value} {w : World} {y : AV} {h' : Hp} (h : CallDoes P w0 E f vs w (denV y) (denH h')) : CallDoes P w0 E f vs w y h' := by
 rcases h with ⟨h1, h2⟩ | ⟨v, h1, h2, h3⟩
 · refine .inl ⟨h1, h2.mono ?_⟩
   rintro e w' ⟨v, rfl, E', h3, h4, h5⟩
   exact ⟨v, rfl, E', h3, h4.undenH, (VV_den E' y v).2 h5⟩
 · exact .inr ⟨v, h1, (VV_den E y v).2 h2, h3.undenH⟩
theorem exT_ok {tab : List Xl} {ex : CallT} (ht : ∀ e ∈ tab, XlOk P w0 e) (hex : CallOk P w0 ex) : CallOk P w0 (exT tab ex) := by
 intro f xs h y h' hc E w vs hvs hr
 unfold exT at hc
 split at hc
 · rename_i y' hf
   cases hc
   obtain ⟨e, he, h1⟩ := findX_ok_ hf
   cases hb : Nat.beq f e.f with
   | false => simp [hb] at h1
   | true =>
    obtain rfl := Nat.eq_of_beq_eq_true hb
    rw [hb, cond_true] at h1
    split at h1
    · rename_i hx
      subst hx
      have hvs' : All2 (VV E) (e.xs.map denV) vs := (All2.map_left (VV_den E) _ _).1 hvs
      have go : (∀ p, e.at_ = some p → h.get p.1 = some (.y p.2)) → e.y = y → CallDoes P w0 E e.f vs.toArray w y h := fun hg hy => by
       subst hy
       exact CallDoes.undenote (ht e he (denH h) (fun p hp => get_den_y (hg p hp)) E w vs hvs' hr.den)
      split at h1
      · rename_i hn
        cases h1
        exact go (fun p hp => by rw [hn] at hp; cases hp) rfl
      · rename_i p hp
        split at h1
        · rename_i hg
          cases h1
          exact go (fun q hq => by rw [hp] at hq; cases hq; exact hg) rfl
        · cases h1
    · cases h1
 · exact hex f xs h y h' hc E w vs hvs hr
end
end Go.Ev
