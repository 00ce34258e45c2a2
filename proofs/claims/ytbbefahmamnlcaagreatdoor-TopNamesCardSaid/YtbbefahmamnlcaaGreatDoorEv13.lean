/- The reckoner is right: append; all that turns memory. -/
import Derived.Test.YtbbefahmamnlcaaGreatDoorEv12
set_option linter.unusedVariables false
set_option linter.unusedSimpArgs false
set_option linter.unusedSectionVars false
namespace Go.Ev
open Go Go.RowKit
section
variable {E : List Ent} {A : Fr} {n : Nat} {a : Act} {P : Program} {w0 w w' : World} {h : Hp}
theorem mkRow_ok {e z m : Nat} {l : List A1} {us : List U} {r : AV} {us' : List U} (he : mkRow P h e z l m us = some (r, us')) : ∃ i v b, P.info? e = some i ∧ i.zero = some v ∧ v.cells.size = z ∧ i.bytes = b ∧ h.n < 2 ^ D ∧ m * b ≤ 140737488355328 ∧ m ≤ 1000000 ∧ l.length = m * z ∧ r = .v (.one (.sl h.n 0 m (.un 0))) ∧ us' = us ++ [.new (.row e z l)] := by
 unfold mkRow at he
 split at he
 · rename_i zz b hz hb
   split at he
   · rename_i hc
     obtain ⟨c1, c2, c3, c4, c5⟩ := hc
     cases he
     obtain ⟨i, v, h1, h2, h3⟩ := info_of (E := []) hz
     have hby := bytes_of h1 hb
     have hcells := V2.cells h3
     exact ⟨i, v, b, h1, h2, by rw [← Array.length_toList, ← hcells.length]; exact c2, hby, c1, c3, c4, c5, rfl, rfl⟩
   · cases he
 · cases he
theorem cells_in (hr : Rep w0 E h w) {k o m : Nat} {c : CapE} {z : Nat} {cs : List A1} {v : Value} (hv : VV E (.v (.one (.sl k o m c))) v) (hc : cellsIn h z (.v (.one (.sl k o m c))) = some cs) :
  ∃ b cc vs, E[k]? = some (.blk b cc) ∧ v = .slice (some ⟨b, o, none⟩) m (capOf cc c) ∧ All2 (V1 E) cs vs ∧ vs.length = m * z ∧ ∀ j u, vs[j]? = some u → w.cell? ((⟨b, o, none⟩ : Addr).add j) = some u := by
 obtain ⟨b, cc, hk, hv, _⟩ := hv
 unfold cellsIn at hc
 cases hg : h.get k with
 | none => simp [hg] at hc
 | some q =>
  cases hl : rowOf q with
  | none => simp [hg, hl] at hc
  | some l =>
   simp only [hg, hl, Option.bind_some] at hc
   obtain ⟨vs, hvs, hlen, hra⟩ := range_at hr hk hg hl hc
   exact ⟨b, cc, vs, hk, hv, hvs, hlen, fun j u hj => by rw [Addr.add_mid]; exact hra j u hj⟩
theorem store_run {b t o : Nat} {vs : Array Value} {fr : Nat × Nat} {us : List Value} (h1 : w.heap[b]? = some (.cells vs t fr)) (h2 : FrOk vs.size fr) (h3 : o + us.length ≤ vs.size) (h4 : ∀ v ∈ us, v.oneCell' = true) : (storeCells ⟨b, o, none⟩ us).run P w = .ok () (w.setCells b o us) := by
 have := run_storeCells_cells (P := P) b o us 0 w (fun j hj => ?_) (fun j hj => ?_) h4
 · simpa using this
 · rw [cell_eq h1]
   simp
   omega
 · have hle : o + 0 + j < vs.size := by omega
   simp only [World.frozen?, h1]
   rcases h2 with h2 | h2
   · have : ¬ fr.1 ≤ o + 0 + j := by omega
     simp [this]
     intro h9
     omega
   · subst h2
     simp
theorem run_append_in {t ty e : TypeId} {i : TypeInfo} (ht : P.underlying t = some (.slice e)) (hi : P.info? e = some i)
    {g sLen sCap : Nat} {cur : Array Value} {tt : TypeId} {fr : Nat × Nat} (hg : w.heap[g]? = some (.cells cur tt fr)) (hfr : FrOk cur.size fr)
    {ad : Addr} {m c : Nat} {news : List Value} (hl : news.length = m * i.size) (hnews : ∀ j u, news[j]? = some u → w.cell? (ad.add j) = some u) (h1 : ∀ u ∈ news, u.oneCell' = true)
    (hroom : sLen + m ≤ sCap) (hfit : sLen * i.size + news.length ≤ cur.size) :
    (Builtin.append_ #[t, t] ty #[.slice (some ⟨g, 0, none⟩) sLen sCap, .slice (some ad) m c]).run P w =
      .ok (.slice (some ⟨g, 0, none⟩) (sLen + m) sCap) (w.setCells g (sLen * i.size) news) := by
 have hf := run_firstCells_some (P := P) w i.size m ad m c news hl hnews
 have hst := store_run (P := P) hg hfr hfit h1
 simp [Builtin.append_, run_underlying ht, sizeOf, typeInfo, hi, Builtin.lenOf, hroom, hf, Addr.add_lit, hst]
theorem turns_append (ha : AR E A n a) (hr : Rep w0 E h w) {o : Oper} {c : Call} {x y r : AV} {t u : TypeId} {us : List U} (ho : o.op = .call c) (hc : c.callee = .builtin .append) (hx : allSome (evA A) c.args.toList = some [x, y]) (ht : c.argTypes.toList = [t, u])
  (he : evAppend P h t u x y = some (r, us)) : Turns P w0 E a w o r (apU h us) := by
 obtain ⟨v, vx, hv, hvx, heq⟩ := args2 ha hx
 unfold evAppend at he
 split at he
 · rename_i htu
   subst htu
   have hty : c.argTypes = #[t, t] := Array.ext' ht
   have hgo : ∀ (v' : Value) (w' : World), (Builtin.append_ #[t, t] o.type #[v, vx]).run P w = .ok v' w' → (execOp a.eval o).run P w = .ok (.value v') w' := by
    intro v' w' hrun
    simp only [execOp, ho, resolve, hc, heq, hty, invoke, builtin, Sem.run_bind, Sem.run_pure, Result.andThen_ok, hrun]
   split at he
   · rename_i e k2 f2 m c2 hel
     have hu := elem_ok hel
     split at he
     · rename_i z hs
       split at he
       · cases he
       · rename_i cs hcs
         obtain ⟨b2, cc2, news, hk2, hv2, hnv, hnl, hnews⟩ := cells_in hr hvx hcs
         split at he
         · -- nil
           have hv : v = .slice none 0 0 := hv
           split at he
           · cases he
           · rename_i hm
             obtain ⟨i, zv, b, h1, h2, h3, h4, h5, h6, h7, h8, rfl, rfl⟩ := mkRow_ok he
             have hsz := size_of h1 hs
             have hrun := run_append_nil (P := P) w t o.type e i zv hu h1 h2 ⟨b2, f2, none⟩ m (capOf cc2 c2) news (by rw [hsz]; exact hnl) hnews (by omega) (by omega) (by rw [h4]; omega)
             have hcap : m ≤ grownCap w m 0 e := grownCap_ge w _ _ _
             have hmax : grownCap w m 0 e ≤ maxLen := grownCap_le_maxLen w _ _ _ (by simp only [maxLen]; omega)
             refine ⟨_, _, _, Pre.one E _, alloc_row hr (rest := Builtin.zeroCells zv.cells (grownCap w m 0 e - m)) (e := e) (z := z) (m := m) (cap := grownCap w m 0 e) h5 hnv h8 hcap hmax (by rw [size_zeroCells, h3]), ⟨w.heap.size, _, last_new hr _, rfl, hcap⟩, .inl (hgo _ _ ?_)⟩
             rw [hv, hv2, hrun]
             rfl
         · -- grown
           rename_i k f m1 cap
           split at he
           · cases he
           · rename_i hgt
             split at he
             · rename_i old hold
               obtain ⟨i, zv, b, h1, h2, h3, h4, h5, h6, h7, h8, rfl, rfl⟩ := mkRow_ok he
               obtain ⟨b1, cc1, olds, hk1, hv1, hov, hol, holds⟩ := cells_in hr hv hold
               have hsz := size_of h1 hs
               have hv1 : v = .slice (some ⟨b1, f, none⟩) m1 cap := hv1
               have hrun := run_append_grow (P := P) w t o.type e i zv hu h1 h2 ⟨b1, f, none⟩ m1 cap olds (by rw [hsz]; exact hol) holds ⟨b2, f2, none⟩ m (capOf cc2 c2) news (by rw [hsz]; exact hnl) hnews (by omega) (by omega) (growslice_fits (by omega) (by rw [h4]; exact h6))
               have hcap : m1 + m ≤ grownCap w (m1 + m) cap e := grownCap_ge w _ _ _
               have hmax : grownCap w (m1 + m) cap e ≤ maxLen := grownCap_le_maxLen w _ _ _ (by simp only [maxLen]; omega)
               refine ⟨_, _, _, Pre.one E _, alloc_row hr (news := olds ++ news) (rest := Builtin.zeroCells zv.cells (grownCap w (m1 + m) cap e - (m1 + m))) (e := e) (z := z) (m := m1 + m) (cap := grownCap w (m1 + m) cap e) h5 (hov.append hnv) h8 hcap hmax (by rw [size_zeroCells, h3]), ⟨w.heap.size, _, last_new hr _, rfl, hcap⟩, .inl (hgo _ _ ?_)⟩
               rw [hv1, hv2, hrun]
               congr 3
               apply Array.ext'
               simp
             · cases he
         · -- a row of its own
           rename_i k m1
           split at he
           · cases he
           · rename_i hm
             split at he
             · rename_i t' z l hg
               split at he
               · rename_i hcond
                 obtain ⟨e1, e2, e3⟩ := hcond
                 subst e1
                 subst e2
                 obtain ⟨i, zv, b, h1, h2, h3, h4, h5, h6, h7, h8, rfl, rfl⟩ := mkRow_ok he
                 obtain ⟨b1, cap, hk1, hv1, hle1⟩ := hv
                 have hv1 : v = .slice (some ⟨b1, 0, none⟩) m1 (cap - 0) := hv1
                 rw [Nat.sub_zero] at hv1
                 have hle1 : m1 ≤ cap := by simp only [capOf] at hle1; omega
                 have hsz := size_of h1 hs
                 obtain ⟨cur, fr, g1, g2, g3, g4, g5⟩ := (hr.obj k _ (lt_of_get hr hk1) hg).is hk1
                 have hlen : l.length ≤ cur.size := by
                  have := g5.length
                  rw [List.length_take] at this
                  have h9 : cur.toList.length = cur.size := Array.length_toList
                  omega
                 have hnl2 : cs.length = news.length := hnv.length
                 have hlt : (l.take (m1 * z)).length = m1 * z := by rw [List.length_take]; omega
                 have hold := g5.take (m1 * z)
                 have htt : (cur.toList.take l.length).take (m1 * z) = cur.toList.take (m1 * z) := by rw [List.take_take, Nat.min_eq_left e3]
                 rw [htt] at hold
                 have hlt2 : (cur.toList.take (m1 * z)).length = m1 * z := by rw [← hold.length]; exact hlt
                 by_cases hroom : m1 + m ≤ cap
                 · -- in place
                   have hfit : m1 * z + news.length ≤ cur.size := by
                    rw [hnl, g3, ← Nat.add_mul]
                    exact Nat.mul_le_mul_right _ hroom
                   have hrun := run_append_in (P := P) (ty := o.type) hu h1 g1 g2 (ad := ⟨b2, f2, none⟩) (c := capOf cc2 c2) (m := m) (news := news) (by rw [hsz]; exact hnl) hnews (fun v hv => by
                     obtain ⟨x, _, hx⟩ := hnv.mem v hv
                     exact V1.oneCell x v hx) hroom (by rw [hsz]; exact hfit)
                   rw [hsz] at hrun
                   obtain ⟨cur', k1, k2, k3⟩ := setCells_row news (m1 * z) w cur g1 hfit
                   have hkn := lt_of_get hr hk1
                   have hlt3 := hr.old k b1 cap hk1
                   have hdel := hr.del hkn
                   have live : ∀ j q, j < (h.del k).n → (h.del k).get j = some q → j ≠ k ∧ h.get j = some q := by
                    intro j q hj hq
                    have hjk : j ≠ k := by
                     intro e
                     subst e
                     have : (h.del j).get j = none := Tr.get_same D h.t j none
                     rw [this] at hq
                     cases hq
                    refine ⟨hjk, ?_⟩
                    have : (h.del k).get j = h.get j := Tr.get_other D h.t k j _ (Nat.lt_of_lt_of_le hkn hr.bound) (Nat.lt_of_lt_of_le hj hr.bound) hjk
                    rwa [this] at hq
                   have hmv : Rep w0 E (h.del k) (w.setCells b1 (m1 * z) news) := hdel.move (below_setCells hlt3.1 news _ w hr.below) (by rw [setCells_size]; exact Nat.le_refl _) (fun j q b' c' hj hq hb' => by
                    obtain ⟨hjk, hq'⟩ := live j q hj hq
                    refine setCells_far b1 news _ w b' (fun e9 => ?_)
                    subst e9
                    exact hjk (hr.sep j k _ _ _ _ _ hj hkn hq' hg hb' hk1))
                   have hnew : (E ++ [Ent.blk b1 cap])[h.n]? = some (.blk b1 cap) := last_new hr _
                   have hrep := hmv.grow (e := .blk b1 cap) (o := .row t' z (l.take (m1 * z) ++ cs)) h5 ?_ ?_
                   · refine ⟨_, _, _, Pre.one E _, hrep, ⟨b1, cap, hnew, rfl, by simp only [capOf]; omega⟩, .inl (hgo _ _ ?_)⟩
                     rw [hv1, hv2, hrun]
                     rfl
                   · refine OK.of_is hnew ?_
                     rw [k1]
                     refine ⟨cur', fr, rfl, by rw [k2]; exact g2, by rw [k2]; exact g3, g4, ?_⟩
                     have e5 : cur'.toList.take (l.take (m1 * z) ++ cs).length = cur.toList.take (m1 * z) ++ news := by
                      rw [k3, List.length_append, hlt, hnl2]
                      unfold overV
                      rw [List.take_append_of_le_length (by rw [List.length_append, hlt2]; exact Nat.le_refl _), List.take_of_length_le (by rw [List.length_append, hlt2]; exact Nat.le_refl _)]
                     rw [e5]
                     exact (hold.append hnv).imp (V1.ext (Ext.one E _))
                   · intro b' c' hbc
                     injection hbc with e6 e7
                     subst e6
                     refine ⟨hlt3.1, by rw [setCells_size]; exact hlt3.2, fun j q c9 hj hq hb' => ?_⟩
                     obtain ⟨hjk, hq'⟩ := live j q hj hq
                     exact hjk (hr.sep j k _ _ _ _ _ hj hkn hq' hg hb' hk1)
                 · -- moved
                   have holds : ∀ j u, (cur.toList.take (m1 * z))[j]? = some u → w.cell? ((⟨b1, 0, none⟩ : Addr).add j) = some u := by
                    intro j u hj
                    rw [Addr.add_mid, cell_eq g1, Nat.zero_add, ← Array.getElem?_toList]
                    rw [List.getElem?_take] at hj
                    split at hj
                    · exact hj
                    · cases hj
                   have hrun := run_append_grow (P := P) w t o.type t' i zv hu h1 h2 ⟨b1, 0, none⟩ m1 cap (cur.toList.take (m1 * z)) (by rw [hsz]; exact hlt2) holds ⟨b2, f2, none⟩ m (capOf cc2 c2) news (by rw [hsz]; exact hnl) hnews (by omega) (by omega) (growslice_fits (by omega) (by rw [h4]; exact h6))
                   have hcap : m1 + m ≤ grownCap w (m1 + m) cap t' := grownCap_ge w _ _ _
                   have hmax : grownCap w (m1 + m) cap t' ≤ maxLen := grownCap_le_maxLen w _ _ _ (by simp only [maxLen]; omega)
                   refine ⟨_, _, _, Pre.one E _, alloc_row (hr.del (lt_of_get hr hk1)) (news := cur.toList.take (m1 * z) ++ news) (rest := Builtin.zeroCells zv.cells (grownCap w (m1 + m) cap t' - (m1 + m))) (e := t') (z := z) (m := m1 + m) (cap := grownCap w (m1 + m) cap t') h5 (hold.append hnv) h8 hcap hmax (by rw [size_zeroCells, h3]), ⟨w.heap.size, _, last_new hr _, rfl, hcap⟩, .inl (hgo _ _ ?_)⟩
                   rw [hv1, hv2, hrun]
                   congr 3
                   apply Array.ext'
                   simp
               · cases he
             · cases he
         · cases he
     · cases he
   · cases he
 · cases he

theorem evEff_ok (ha : AR E A n a) (hr : Rep w0 E h w) {o : Oper} {r : AV} {us : List U} (he : evEff P A h o = some (r, us)) : Turns P w0 E a w o r (apU h us) := by
 unfold evEff at he
 split at he
 · rename_i e ho
   split at he
   · rename_i z hz
     split at he
     · exact turns_alloc ha hr ho hz he
     · cases he
   · cases he
 · rename_i e x ho
   split at he
   · rename_i v hx
     exact turns_box ha hr ho hx he
   · cases he
 · rename_i t m ps ho
   split at he
   · rename_i qs hq
     exact turns_buildSlice ha hr ho hq he
   · cases he
 · rename_i t x y ho
   cases hx : evA A x with
   | none => simp [hx] at he
   | some p =>
    cases hy : evA A y with
    | none => simp [hx, hy] at he
    | some q =>
     simp only [hx, hy, Option.bind_some] at he
     cases hs : evStore P t p q h with
     | none => simp [hs] at he
     | some us' =>
      simp only [hs, Option.map_some, Option.some.injEq, Prod.mk.injEq] at he
      obtain ⟨rfl, rfl⟩ := he
      exact turns_store ha hr ho hx hy hs
 · rename_i s d x ho
   cases hx : evA A x with
   | none => simp [hx] at he
   | some p =>
    simp only [hx, Option.bind_some] at he
    exact turns_convM ha hr ho hx he
 · rename_i f first caps ho
   split at he
   · rename_i hc
     split at he
     · rename_i vs hv
       cases hw : allSome asV2 vs with
       | none => simp [hw] at he
       | some ws =>
        simp only [hw, Option.map_some, Option.some.injEq, Prod.mk.injEq] at he
        obtain ⟨rfl, rfl⟩ := he
        exact turns_makeFunc ha hr ho hc.1 hc.2 hv hw
     · cases he
   · cases he
 · rename_i t ho
   split at he
   · rename_i hn
     cases he
     exact turns_makeMap ha hr ho hn
   · cases he
 · rename_i t x y ho
   cases hx : evA A x with
   | none => simp [hx] at he
   | some p =>
    cases hy : evA A y with
    | none => simp [hx, hy] at he
    | some q =>
     simp only [hx, hy, Option.bind_some] at he
     exact turns_makeSlice ha hr ho hx hy he
 · rename_i t x ho
   cases hx : evA A x with
   | none => simp [hx] at he
   | some p =>
    simp only [hx, Option.bind_some] at he
    exact turns_makeIface ha hr ho hx he
 · rename_i t m k x ho
   cases hm : evA A m with
   | none => simp [hm] at he
   | some p =>
    cases hk : evA A k with
    | none => simp [hm, hk] at he
    | some q =>
     cases hx : evA A x with
     | none => simp [hm, hk, hx] at he
     | some s =>
      simp only [hm, hk, hx, Option.bind_some] at he
      cases hs : evMapUpdate P h t p q s with
      | none => simp [hs] at he
      | some us' =>
       simp only [hs, Option.map_some, Option.some.injEq, Prod.mk.injEq] at he
       obtain ⟨rfl, rfl⟩ := he
       exact turns_mapUpdate ha hr (.inl ho) hm hk hx hs
 · rename_i t m k x ho
   cases hm : evA A m with
   | none => simp [hm] at he
   | some p =>
    cases hk : evA A k with
    | none => simp [hm, hk] at he
    | some q =>
     cases hx : evA A x with
     | none => simp [hm, hk, hx] at he
     | some s =>
      simp only [hm, hk, hx, Option.bind_some] at he
      cases hs : evMapUpdate P h t p q s with
      | none => simp [hs] at he
      | some us' =>
       simp only [hs, Option.map_some, Option.some.injEq, Prod.mk.injEq] at he
       obtain ⟨rfl, rfl⟩ := he
       exact turns_mapUpdate ha hr (.inr ho) hm hk hx hs
 · rename_i t x ho
   cases hx : evA A x with
   | none => simp [hx] at he
   | some p =>
    simp only [hx, Option.bind_some] at he
    exact turns_range ha hr ho hx he
 · rename_i x s ho
   cases hx : evA A x with
   | none => simp [hx] at he
   | some p =>
    simp only [hx, Option.bind_some] at he
    exact turns_next ha hr ho hx he
 · rename_i c ho
   split at he
   · rename_i s x t u hc hx ht
     exact turns_append ha hr ho hc hx ht he
   · rename_i d x t tl hc hx ht
     exact turns_copy ha hr ho hc hx ht he
   · rename_i x t tl hc hx ht
     cases hs : evClear P h t x with
     | none => simp [hs] at he
     | some us' =>
      simp only [hs, Option.map_some, Option.some.injEq, Prod.mk.injEq] at he
      obtain ⟨rfl, rfl⟩ := he
      exact turns_clear ha hr ho hc hx ht hs
   · rename_i x k t tl hc hx ht
     cases hs : evDelete P h t x k with
     | none => simp [hs] at he
     | some us' =>
      simp only [hs, Option.map_some, Option.some.injEq, Prod.mk.injEq] at he
      obtain ⟨rfl, rfl⟩ := he
      exact turns_delete ha hr ho hc hx ht hs
   · cases he
 · cases he
end
end Go.Ev
