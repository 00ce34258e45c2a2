/- The reckoner is right: regions whose order is drawn. -/
import Derived.Test.YtbbefahmamnlcaaGreatDoorEv14
import Derived.OrdersHeld
set_option linter.unusedVariables false
set_option linter.unusedSimpArgs false
set_option linter.unusedSectionVars false
namespace Go.Ev
open Go Go.RowKit
/-! ### What holds behind each operation but those that wait for a reader -/
section
variable {P : Program} {ops : Array Oper} {Q : Exit → Act → World → Prop} {md : Region.Mode} {S : Nat → World → Prop}
/-- None of j's edges names i. -/
def noWait (md : Region.Mode) (ops : Array Oper) (j i : Nat) : Prop := ∀ o, ops[j]? = some o → ∀ e ∈ o.after, Region.binds md e = true → e.on ≠ i
/-- What is told of still, behind number j. -/
def kill (md : Region.Mode) (ops : Array Oper) (j : Nat) (al : Nat → Prop) : Nat → Prop := fun f => al f ∧ noWait md ops j f
def wpAnyG (P : Program) (md : Region.Mode) (ops : Array Oper) (Q : Exit → Act → World → Prop) (S : Nat → World → Prop) : Nat → (Nat → Prop) → Array Bool → Act → World → Prop
 | 0, _, listed, a, w => Region.ready md ops listed = [] ∧ Q .normal a w
 | fuel + 1, al, listed, a, w =>
  (Region.ready md ops listed = [] → Q .normal a w) ∧
  ∀ i ∈ Region.ready md ops listed, wpOp P ops Q i (fun a' w' => (∀ f, kill md ops i al f → S f w') ∧ wpAnyG P md ops Q S fuel (kill md ops i al) (listed.setIfInBounds i true) a' w') a w
theorem wpAny_of_G : ∀ (fuel : Nat) (al : Nat → Prop) (listed : Array Bool) (a : Act) (w : World), wpAnyG P md ops Q S fuel al listed a w → wpAny P md ops Q fuel listed a w
 | 0, _, _, _, _, h => h
 | fuel + 1, _, _, _, _, h => ⟨h.1, fun i hi => wpOp_mono (fun a' w' h' => wpAny_of_G fuel _ _ a' w' h'.2) (h.2 i hi)⟩
theorem wpAnyG_mono : ∀ (fuel : Nat) (al al' : Nat → Prop) (listed : Array Bool) (a : Act) (w : World), (∀ f, al' f → al f) → wpAnyG P md ops Q S fuel al listed a w → wpAnyG P md ops Q S fuel al' listed a w
 | 0, _, _, _, _, _, _, h => h
 | fuel + 1, al, al', listed, a, w, hs, h => ⟨h.1, fun i hi => wpOp_mono (fun a' w' h' => ⟨fun f hf => h'.1 f ⟨hs f hf.1, hf.2⟩, wpAnyG_mono fuel _ _ _ a' w' (fun f hf => ⟨hs f hf.1, hf.2⟩) h'.2⟩) (h.2 i hi)⟩
theorem wpAnyG_first {i : Nat} {oi : Oper} {v : Value} (hi : ops[i]? = some oi) (hsel : ∀ (j : Nat) (o : Oper) cs b, ops[j]? = some o → o.op ≠ .select cs b)
  (hQ : ∀ c a w, Q (.panic c) (a.put oi.dst v) w → Q (.panic c) a w) :
  ∀ (fuel : Nat) (al : Nat → Prop) (listed : Array Bool) (a : Act) (w : World),
   (∀ j oj, ops[j]? = some oj → j ≠ i → listed.getD j true = false → (∀ e ∈ oj.after, Region.binds md e = true → e.on ≠ i) → oi.apart ops oj = true) →
   i ∈ Region.ready md ops listed → YieldsIf P ops (S i) oi v a → al i → (∀ f, al f → S f w) →
   wpAnyG P md ops Q S fuel al (listed.setIfInBounds i true) (a.put oi.dst v) w → wpAnyG P md ops Q S (fuel + 1) al listed a w := by
 intro fuel
 induction fuel with
 | zero =>
  intro al listed a w _ hr hy hal hS H
  refine ⟨fun h => (by rw [h] at hr; cases hr), fun j hj => ?_⟩
  by_cases hji : j = i
  · subst hji
    exact hy.wpOp hi (hS _ hal) ⟨fun f hf => hS f hf.1, wpAnyG_mono _ al _ _ _ _ (fun f hf => hf.1) H⟩
  · have := ready_mono hj hji
    rw [H.1] at this
    cases this
 | succ fuel ih =>
  intro al listed a w hfree hr hy hal hS H
  refine ⟨fun h => (by rw [h] at hr; cases hr), fun j hj => ?_⟩
  by_cases hji : j = i
  · subst hji
    exact hy.wpOp hi (hS _ hal) ⟨fun f hf => hS f hf.1, wpAnyG_mono _ al _ _ _ _ (fun f hf => hf.1) H⟩
  · have h1 := H.2 j (ready_mono hj hji)
    obtain ⟨hjun, oj, hoj, hall⟩ := mem_ready.1 hj
    have hnot : ∀ e ∈ oj.after, Region.binds md e = true → e.on ≠ i := fun e he hb heq => by
      have h1 := hall e he hb
      have h0 := (mem_ready.1 hr).1
      rw [heq] at h1
      rcases Nat.lt_or_ge i listed.size with h' | h'
      · simp [h'] at h0 h1; rw [h0] at h1; cases h1
      · simp [Array.getElem?_eq_none h'] at h1
    have hnw : noWait md ops j i := fun o ho e he hb => by
      rw [hoj] at ho
      cases ho
      exact hnot e he hb
    have h2 := wpOp_putIf hoj (hfree j oj hoj hji hjun hnot) (fun cs b => hsel i oi cs b hi) (fun cs b => hsel j oj cs b hoj) hQ hy h1
    have hfree' : ∀ k ok, ops[k]? = some ok → k ≠ i → (listed.setIfInBounds j true).getD k true = false →
        (∀ e ∈ ok.after, Region.binds md e = true → e.on ≠ i) → oi.apart ops ok = true := fun k ok hk hki hun hno => by
      refine hfree k ok hk hki ?_ hno
      by_cases hjk : j = k
      · subst hjk; exact hjun
      · rw [getD_set_ne true hjk] at hun; exact hun
    refine wpOp_mono (fun a' w' h3 => ⟨h3.2.1, ih (kill md ops j al) (listed.setIfInBounds j true) a' w' hfree' (ready_mono hr (Ne.symm hji)) h3.1 ⟨hal, hnw⟩ h3.2.1 ?_⟩) h2
    rw [Array.setIfInBounds_comm _ _ hji]
    exact h3.2.2
end
/-! ### Names that are reserved -/
section
variable {E E' : List Ent} {A : Fr} {n : Nat} {a : Act} {P : Program} {w0 w w' ws : World} {h h0 : Hp}
theorem Rep.reserve {t : Tr AO} {n0 m : Nat} (hr : Rep w0 E ⟨t, n0⟩ w) (hm : n0 ≤ m) (hd : m ≤ 2 ^ D) : Rep w0 (E ++ List.replicate (m - n0) .none) ⟨t, m⟩ w := by
 have hlen : E.length = n0 := hr.len
 have hin : ∀ (k : Nat) (o : AO), k < m → Tr.get D t k = some o → k < n0 := by
  intro k o hk ho
  by_cases h : k < n0
  · exact h
  · have := hr.free k (Nat.le_of_not_lt h) (Nat.lt_of_lt_of_le hk hd)
    have h2 : Tr.get D t k = none := this
    rw [ho] at h2
    cases h2
 have hold : ∀ (k : Nat) (e : Ent), (E ++ List.replicate (m - n0) Ent.none)[k]? = some e → e ≠ .none → E[k]? = some e := by
  intro k e hk hne
  by_cases h : k < E.length
  · rwa [List.getElem?_append_left h] at hk
  · rw [List.getElem?_append_right (by omega), List.getElem?_replicate] at hk
    split at hk
    · cases hk
      exact absurd rfl hne
    · cases hk
 refine ⟨hr.below, by simp [hlen]; omega, hd, fun k o hk ho => ?_, fun k hk hkd => ?_, fun k k' o o' b c c' hk hk' ho ho' h1 h2 => ?_, fun k b c hk => hr.old k b c (hold k _ hk (by simp))⟩
 · exact (hr.obj k o (hin k o hk ho) ho).ext (Ext.more E _)
 · exact hr.free k (Nat.le_trans hm hk) hkd
 · exact hr.sep k k' o o' b c c' (hin k o hk ho) (hin k' o' hk' ho') ho ho' (hold k _ h1 (by simp)) (hold k' _ h2 (by simp))
/-- A reserved name gets its block, at the memory's end. -/
theorem Rep.fill (hr : Rep w0 E h w) {k c : Nat} {ob : Obj} {o : AO} (hk : E[k]? = some .none) (hi : Is (E.set k (.blk w.heap.size c)) c (some ob) o) : Rep w0 (E.set k (.blk w.heap.size c)) (h.put k o) (w.alloc ob) := by
 have hkn : k < h.n := lt_of_get hr hk
 have hkd := Nat.lt_of_lt_of_le hkn hr.bound
 have hx : Ext E (E.set k (.blk w.heap.size c)) := Ext.fill E k _ hk
 have hkl : k < E.length := by rw [hr.len]; exact hkn
 have hnew : (E.set k (.blk w.heap.size c))[k]? = some (.blk w.heap.size c) := by simp [hkl]
 have hback : ∀ (j : Nat) (f : Ent), j ≠ k → (E.set k (.blk w.heap.size c))[j]? = some f → E[j]? = some f := by
  intro j f hj hf
  rw [List.getElem?_set, if_neg (fun e => hj e.symm)] at hf
  exact hf
 have hother : ∀ j, j < 2 ^ D → j ≠ k → (h.put k o).get j = h.get j := fun j hj hne => Tr.get_other D h.t k j _ hkd hj hne
 have hsame : (h.put k o).get k = some o := Tr.get_same D h.t k _
 have hb : Below w0.heap.size w0 (w.alloc ob) := hr.below.alloc hr.below.size ob
 have hsz : (w.alloc ob).heap.size = w.heap.size + 1 := Array.size_push _
 have hr2 : Rep w0 E h (w.alloc ob) := hr.move hb (by omega) (fun j q b c' _ _ hj => Below.heap_alloc w ob b (hr.old j b c' hj).2)
 refine ⟨hb, by rw [List.length_set]; exact hr.len, hr.bound, fun j q hj hq => ?_, fun j hj hjd => ?_, fun j j' q q' b1 c1 c2 hj hj' hq hq' h1 h2 => ?_, fun j b1 c1 hj => ?_⟩
 · have hj2 : j < h.n := hj
   by_cases hjk : j = k
   · subst hjk
     rw [hsame] at hq
     cases hq
     refine OK.of_is hnew ?_
     rw [heap_alloc_new]
     exact hi
   · rw [hother j (Nat.lt_of_lt_of_le hj2 hr.bound) hjk] at hq
     exact (hr2.obj j q hj2 hq).ext hx
 · have hj2 : h.n ≤ j := hj
   rw [hother j hjd (by omega)]
   exact hr.free j hj hjd
 · have hj2 : j < h.n := hj
   have hj2' : j' < h.n := hj'
   by_cases e1 : j = k <;> by_cases e2 : j' = k
   · omega
   · subst e1
     rw [hnew] at h1
     injection h1 with h1
     injection h1 with h1 _
     have h3 := hback j' _ e2 h2
     have := (hr.old j' b1 c2 h3).2
     omega
   · subst e2
     rw [hnew] at h2
     injection h2 with h2
     injection h2 with h2 _
     have h3 := hback j _ e1 h1
     have := (hr.old j b1 c1 h3).2
     omega
   · rw [hother j (Nat.lt_of_lt_of_le hj2 hr.bound) e1] at hq
     rw [hother j' (Nat.lt_of_lt_of_le hj2' hr.bound) e2] at hq'
     exact hr.sep j j' q q' b1 c1 c2 hj2 hj2' hq hq' (hback j _ e1 h1) (hback j' _ e2 h2)
 · by_cases e1 : j = k
   · subst e1
     rw [hnew] at hj
     injection hj with hj
     injection hj with hj _
     subst hj
     exact ⟨hr.below.size, by omega⟩
   · have := hr.old j b1 c1 (hback j _ e1 hj)
     exact ⟨this.1, by omega⟩
/-! ### A value by names stands for one value -/
theorem V1.fun {x : A1} {v v' : Value} (h : V1 E x v) (h' : V1 E x v') : v = v' := by
 cases x <;> simp only [V1] at h h'
 all_goals first
 | (rw [h, h']; done)
 | (rw [h.1, h'.1]; done)
 | (obtain ⟨b, c, hk, hv⟩ := h
    obtain ⟨b', c', hk', hv'⟩ := h'
    rw [hk] at hk'
    injection hk' with hk'
    injection hk' with e1 e2
    subst e1; subst e2
    rw [hv, hv']
    done)
 | (obtain ⟨b, c, hk, hv, _⟩ := h
    obtain ⟨b', c', hk', hv', _⟩ := h'
    rw [hk] at hk'
    injection hk' with hk'
    injection hk' with e1 e2
    subst e1; subst e2
    rw [hv, hv']
    done)
 | (have h1 := h.1
    have h2 := h'.1
    rw [h1] at h2
    injection h2 with h2
    injection h2)
theorem V1s.fun : ∀ {l : List A1} {vs vs' : List Value}, All2 (V1 E) l vs → All2 (V1 E) l vs' → vs = vs'
 | [], [], [], _, _ => rfl
 | x :: l, v :: vs, u :: us, h, h' => by rw [V1.fun h.1 h'.1, V1s.fun h.2 h'.2]
theorem sameCells_ok : ∀ {l m : List A1}, sameCells l m = true → l = m
 | [], [], _ => rfl
 | a :: l, b :: m, h => by
  unfold sameCells at h
  split at h
  · rename_i e
    rw [e, sameCells_ok h]
  · cases h
 | [], _ :: _, h => by simp [sameCells] at h
 | _ :: _, [], h => by simp [sameCells] at h
theorem cellsAt_ok {p : Nat × Nat × Nat} {cs : List A1} (hc : cellsAt h p = some cs) : ∃ q l, h.get p.1 = some q ∧ rowOf q = some l ∧ seg l p.2.1 p.2.2 = some cs := by
 unfold cellsAt at hc
 cases hg : h.get p.1 with
 | none => simp [hg] at hc
 | some q =>
  cases hl : rowOf q with
  | none => simp [hg, hl] at hc
  | some l =>
   simp only [hg, hl, Option.bind_some] at hc
   exact ⟨q, l, rfl, hl, hc⟩
/-- A cell's fact: what lay there at the region's start lies there. -/
def FactC (E0 : List Ent) (ws : World) (x : FactA) (w : World) : Prop := ∀ b c, E0[x.2.1.1]? = some (.blk b c) → ∀ vs : List Value, vs.length = x.2.1.2.2 → ws.rangeAt b x.2.1.2.1 vs → w.rangeAt b x.2.1.2.1 vs
theorem rangeAt_fun {b o : Nat} {vs us : List Value} (h1 : w.rangeAt b o vs) (h2 : w.rangeAt b o us) (hl : vs.length = us.length) : vs = us := by
 apply List.ext_getElem? 
 intro j
 cases hv : vs[j]? with
 | none =>
  have := List.getElem?_eq_none_iff.1 hv
  rw [List.getElem?_eq_none (by omega)]
 | some v =>
  cases hu : us[j]? with
  | none =>
   have := List.getElem?_eq_none_iff.1 hu
   have h3 := (List.getElem?_eq_some_iff.1 hv).1
   omega
  | some u =>
   have h3 := h1 j v hv
   have h4 := h2 j u hu
   rw [h3] at h4
   exact h4
/-- What the names of a region's start (E0) and those of now have in common. -/
def Agree (n0 : Nat) (E0 E : List Ent) : Prop := Ext E0 E ∧ ∀ k, k < n0 → E[k]? = E0[k]?
theorem fact_at {E0 : List Ent} {n0 : Nat} (hs : Rep w0 E0 h0 ws) (hr : Rep w0 E h w) (hag : Agree n0 E0 E) {x : FactA} {cs0 cs' : List A1} (hn : x.2.1.1 < n0) (hc0 : cellsAt h0 x.2.1 = some cs0) (hc : cellsAt h x.2.1 = some cs') (hsame : cs0 = cs') : FactC E0 ws x w := by
 intro b c hk vs hlen hra
 obtain ⟨q, l, g1, g2, g3⟩ := cellsAt_ok hc0
 obtain ⟨q', l', k1, k2, k3⟩ := cellsAt_ok hc
 obtain ⟨vs0, a1, a2, a3⟩ := range_at hs hk g1 g2 g3
 have hk' : E[x.2.1.1]? = some (.blk b c) := by rw [hag.2 _ hn]; exact hk
 obtain ⟨vs1, b1, b2, b3⟩ := range_at hr hk' k1 k2 k3
 have e1 : vs = vs0 := rangeAt_fun hra a3 (by omega)
 subst hsame
 have e2 : vs0 = vs1 := V1s.fun (a1.imp (V1.ext hag.1)) b1
 rw [e1, e2]
 exact b3
end
end Go.Ev
