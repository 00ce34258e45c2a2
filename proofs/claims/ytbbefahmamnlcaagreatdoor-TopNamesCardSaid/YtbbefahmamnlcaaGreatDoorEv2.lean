/- A reckoner for closed runs: what a memory by names stands for in a world. -/
import Derived.Test.YtbbefahmamnlcaaGreatDoorEv1
set_option linter.unusedVariables false
set_option linter.unusedSimpArgs false
set_option linter.unusedSectionVars false
namespace Go.Ev
open Go Go.RowKit
abbrev D : Nat := 9
structure Hp where
 t : Tr AO
 n : Nat
 deriving DecidableEq
def Hp.get (h : Hp) (k : Nat) : Option AO := Tr.get D h.t k
def Hp.put (h : Hp) (k : Nat) (o : AO) : Hp := { t := Tr.set D h.t k (some o), n := h.n }
def Hp.del (h : Hp) (k : Nat) : Hp := { t := Tr.set D h.t k none, n := h.n }
def Hp.new (h : Hp) (o : AO) : Hp := { t := Tr.set D h.t h.n (some o), n := h.n + 1 }
/-- An entry of a map. -/
def ME (E : List Ent) (e : A1 × A2 × Nat) (m : MapEntry) : Prop := V1 E e.1 m.key ∧ V2 E e.2.1 m.val ∧ m.born = e.2.2
def FrOk (n : Nat) (fr : Nat × Nat) : Prop := n ≤ fr.1 ∨ fr = (0, 0)
/-- What a block holds (c: the capacity of its name). -/
def Is (E : List Ent) (c : Nat) (x : Option Obj) : AO → Prop
 | .cells t l => ∃ cs fr, x = some (.cells cs t fr) ∧ FrOk cs.size fr ∧ All2 (V1 E) l cs.toList
 | .row t z l => ∃ cs fr, x = some (.cells cs t fr) ∧ FrOk cs.size fr ∧ cs.size = c * z ∧ c ≤ maxLen ∧ All2 (V1 E) l (cs.toList.take l.length)
 | .map es clock => ∃ ms, x = some (.map ms clock) ∧ All2 (ME E) es ms.toList
 | .iter k since seen last => ∃ b c', E[k]? = some (.blk b c') ∧ x = some (.mapIter (some b) since seen.toArray last)
 | .siter s pos => x = some (.stringIter (bytes s) pos)
 | .clo _ _ => False
 | .ifc _ _ => False
def OK (E : List Ent) (w : World) (k : Nat) : AO → Prop
 | .clo fn caps => ∃ cs : List Value, E[k]? = some (.clo (.func (.func fn) #[] cs.toArray)) ∧ All2 (V2 E) caps cs
 | .ifc t x => ∃ v : Value, E[k]? = some (.clo (.iface t v)) ∧ V2 E x v
 | o => ∃ b c, E[k]? = some (.blk b c) ∧ Is E c w.heap[b]? o
theorem OK.of_is {E : List Ent} {w : World} {k : Nat} {o : AO} {b c : Nat} (hk : E[k]? = some (.blk b c)) (h : Is E c w.heap[b]? o) : OK E w k o := by
 cases o <;> first | exact ⟨b, c, hk, h⟩ | exact h.elim
theorem OK.is {E : List Ent} {w : World} {k : Nat} {o : AO} {b c : Nat} (h : OK E w k o) (hk : E[k]? = some (.blk b c)) : Is E c w.heap[b]? o := by
 cases o <;> first
 | (obtain ⟨b', c', hk', h'⟩ := h
    rw [hk] at hk'
    injection hk' with hk'
    injection hk' with h1 h2
    subst h1; subst h2
    exact h')
 | (obtain ⟨cs, hk', _⟩ := h
    rw [hk] at hk'
    injection hk' with hk'
    cases hk')
structure Rep (w0 : World) (E : List Ent) (h : Hp) (w : World) : Prop where
 below : Below w0.heap.size w0 w
 len : E.length = h.n
 bound : h.n ≤ 2 ^ D
 obj : ∀ (k : Nat) (o : AO), k < h.n → h.get k = some o → OK E w k o
 free : ∀ (k : Nat), h.n ≤ k → k < 2 ^ D → h.get k = none
 sep : ∀ (k k' : Nat) (o o' : AO) (b c c' : Nat), k < h.n → k' < h.n → h.get k = some o → h.get k' = some o' → E[k]? = some (Ent.blk b c) → E[k']? = some (Ent.blk b c') → k = k'
 old : ∀ (k b c : Nat), E[k]? = some (Ent.blk b c) → w0.heap.size ≤ b ∧ b < w.heap.size
section
variable {E E' : List Ent} {c : Nat} {x : Option Obj} {o : AO} {w w' w0 : World} {h : Hp}
theorem ME.ext (he : Ext E E') (e : A1 × A2 × Nat) (m : MapEntry) (hm : ME E e m) : ME E' e m := ⟨V1.ext he _ _ hm.1, V2.ext he _ _ hm.2.1, hm.2.2⟩
theorem Is.ext (he : Ext E E') (hi : Is E c x o) : Is E' c x o := by
 cases o with
 | cells t l =>
  obtain ⟨cs, fr, h1, h2, h3⟩ := hi
  exact ⟨cs, fr, h1, h2, h3.imp (V1.ext he)⟩
 | row t z l =>
  obtain ⟨cs, fr, h1, h2, h3, h4, h5⟩ := hi
  exact ⟨cs, fr, h1, h2, h3, h4, h5.imp (V1.ext he)⟩
 | map es clock =>
  obtain ⟨ms, h1, h2⟩ := hi
  exact ⟨ms, h1, h2.imp (ME.ext he)⟩
 | iter k since seen last =>
  obtain ⟨b, c', h1, h2⟩ := hi
  exact ⟨b, c', he.blk h1, h2⟩
 | siter s pos => exact hi
 | clo fn caps => exact hi
 | ifc t x => exact hi
theorem OK.ext {k : Nat} (he : Ext E E') (hi : OK E w k o) : OK E' w k o := by
 cases o <;> first
 | (obtain ⟨b, c, hk, h2⟩ := hi
    exact ⟨b, c, he.blk hk, h2.ext he⟩)
 | (obtain ⟨cs, hk, h2⟩ := hi
    exact ⟨cs, he.clo hk, h2.imp (V2.ext he)⟩)
 | (obtain ⟨v, hk, h2⟩ := hi
    exact ⟨v, he.clo hk, V2.ext he _ _ h2⟩)
theorem lt_of_get {k : Nat} {e : Ent} (hr : Rep w0 E h w) (hk : E[k]? = some e) : k < h.n := by
 rw [← hr.len]
 exact (List.getElem?_eq_some_iff.1 hk).1
/-- A world that keeps the blocks of what is told. -/
theorem Rep.move (hr : Rep w0 E h w) (hb : Below w0.heap.size w0 w') (hs : w.heap.size ≤ w'.heap.size)
  (hm : ∀ (k : Nat) (o : AO) (b c : Nat), k < h.n → h.get k = some o → E[k]? = some (Ent.blk b c) → w'.heap[b]? = w.heap[b]?) : Rep w0 E h w' where
 below := hb
 len := hr.len
 bound := hr.bound
 free := hr.free
 sep := hr.sep
 old := fun k b c hk => ⟨(hr.old k b c hk).1, Nat.lt_of_lt_of_le (hr.old k b c hk).2 hs⟩
 obj := fun k o hk ho => by
  have h1 := hr.obj k o hk ho
  cases o <;> first
  | (obtain ⟨b, c, hk', h2⟩ := h1
     refine ⟨b, c, hk', ?_⟩
     rw [hm k _ b c hk ho hk']
     exact h2)
  | exact h1
/-- The block of one name holds something else. -/
theorem Rep.put (hr : Rep w0 E h w) {k b c : Nat} {o o' : AO} (hk : E[k]? = some (.blk b c)) (ho : h.get k = some o) (hb : Below w0.heap.size w0 w') (hs : w.heap.size ≤ w'.heap.size)
  (hi : Is E c w'.heap[b]? o') (hm : ∀ j, j ≠ b → j < w.heap.size → w'.heap[j]? = w.heap[j]?) : Rep w0 E (h.put k o') w' := by
 have hkn := lt_of_get hr hk
 have hkd := Nat.lt_of_lt_of_le hkn hr.bound
 have hother : ∀ j, j < 2 ^ D → j ≠ k → (h.put k o').get j = h.get j := fun j hj hne => Tr.get_other D h.t k j _ hkd hj hne
 refine ⟨hb, hr.len, hr.bound, ?_, ?_, ?_, ?_⟩
 · intro j q hj hq
   have hj2 : j < h.n := hj
   have hjd := Nat.lt_of_lt_of_le hj2 hr.bound
   by_cases hjk : j = k
   · subst hjk
     have hq2 : q = o' := by
      have : (h.put j o').get j = some o' := Tr.get_same D h.t j _
      rw [this] at hq
      exact (Option.some.inj hq).symm
     subst hq2
     exact OK.of_is hk hi
   · rw [hother j hjd hjk] at hq
     have h1 := hr.obj j q hj2 hq
     cases q <;> first
     | (obtain ⟨b', c', hk', h2⟩ := h1
        refine ⟨b', c', hk', ?_⟩
        rw [hm b' (fun e => hjk (by subst e; exact hr.sep j k _ _ _ _ _ hj2 hkn hq ho hk' hk)) (hr.old j b' c' hk').2]
        exact h2)
     | exact h1
 · intro j hj hjd
   have hj2 : h.n ≤ j := hj
   rw [hother j hjd (by omega)]
   exact hr.free j hj hjd
 · intro j j' q q' b1 c1 c2 hj hj' hq hq' h1 h2
   have live : ∀ i z, i < h.n → (h.put k o').get i = some z → ∃ z', h.get i = some z' := by
    intro i z hi hz
    by_cases e : i = k
    · subst e; exact ⟨o, ho⟩
    · rw [hother i (Nat.lt_of_lt_of_le hi hr.bound) e] at hz
      exact ⟨z, hz⟩
   obtain ⟨z, hz⟩ := live j q hj hq
   obtain ⟨z', hz'⟩ := live j' q' hj' hq'
   exact hr.sep j j' z z' b1 c1 c2 hj hj' hz hz' h1 h2
 · intro j b1 c1 hj
   exact ⟨(hr.old j b1 c1 hj).1, Nat.lt_of_lt_of_le (hr.old j b1 c1 hj).2 hs⟩
/-- A name is told of no more. -/
theorem Rep.del (hr : Rep w0 E h w) {k : Nat} (hk : k < h.n) : Rep w0 E (h.del k) w := by
 have hkd := Nat.lt_of_lt_of_le hk hr.bound
 have hother : ∀ j, j < 2 ^ D → j ≠ k → (h.del k).get j = h.get j := fun j hj hne => Tr.get_other D h.t k j _ hkd hj hne
 have hsame : (h.del k).get k = none := Tr.get_same D h.t k none
 have live : ∀ i z, i < h.n → (h.del k).get i = some z → h.get i = some z := by
  intro i z hi hz
  by_cases e : i = k
  · subst e
    rw [hsame] at hz
    cases hz
  · rwa [hother i (Nat.lt_of_lt_of_le hi hr.bound) e] at hz
 refine ⟨hr.below, hr.len, hr.bound, fun j q hj hq => hr.obj j q hj (live j q hj hq), fun j hj hjd => ?_, fun j j' q q' b1 c1 c2 hj hj' hq hq' h1 h2 => hr.sep j j' q q' b1 c1 c2 hj hj' (live j q hj hq) (live j' q' hj' hq') h1 h2, hr.old⟩
 have hj2 : h.n ≤ j := hj
 rw [hother j hjd (by omega)]
 exact hr.free j hj hjd
/-- A new name. -/
theorem Rep.grow (hr : Rep w0 E h w) {e : Ent} {o : AO} (hn : h.n < 2 ^ D) (hok : OK (E ++ [e]) w h.n o)
  (hnew : ∀ (b c : Nat), e = Ent.blk b c → w0.heap.size ≤ b ∧ b < w.heap.size ∧ ∀ (k : Nat) (q : AO) (c' : Nat), k < h.n → h.get k = some q → E[k]? ≠ some (Ent.blk b c')) : Rep w0 (E ++ [e]) (h.new o) w := by
 have hl : E.length = h.n := hr.len
 have hx : Ext E (E ++ [e]) := Ext.one E e
 have hlast : (E ++ [e])[h.n]? = some e := by rw [← hl]; simp
 have hback : ∀ k f, k < h.n → (E ++ [e])[k]? = some f → E[k]? = some f := by
  intro k f hk hf
  rwa [List.getElem?_append_left (by omega)] at hf
 have hother : ∀ j, j < 2 ^ D → j ≠ h.n → (h.new o).get j = h.get j := fun j hj hne => Tr.get_other D h.t h.n j _ hn hj hne
 have hsame : (h.new o).get h.n = some o := Tr.get_same D h.t h.n _
 refine ⟨hr.below, by simp [hl, Hp.new], hn, ?_, ?_, ?_, ?_⟩
 · intro j q hj hq
   have hj2 : j < h.n + 1 := hj
   by_cases hjn : j = h.n
   · subst hjn
     rw [hsame] at hq
     cases hq
     exact hok
   · rw [hother j (by omega) hjn] at hq
     exact (hr.obj j q (by omega) hq).ext hx
 · intro j hj hjd
   have hj2 : h.n + 1 ≤ j := hj
   rw [hother j hjd (by omega)]
   exact hr.free j (by omega) hjd
 · intro j j' q q' b1 c1 c2 hj hj' hq hq' h1 h2
   have hj2 : j < h.n + 1 := hj
   have hj2' : j' < h.n + 1 := hj'
   by_cases e1 : j = h.n <;> by_cases e2 : j' = h.n
   · omega
   · subst e1
     rw [hlast] at h1
     rw [hother j' (by omega) e2] at hq'
     exact absurd (hback j' _ (by omega) h2) ((hnew b1 c1 (Option.some.inj h1)).2.2 j' q' c2 (by omega) hq')
   · subst e2
     rw [hlast] at h2
     rw [hother j (by omega) e1] at hq
     exact absurd (hback j _ (by omega) h1) ((hnew b1 c2 (Option.some.inj h2)).2.2 j q c1 (by omega) hq)
   · rw [hother j (by omega) e1] at hq
     rw [hother j' (by omega) e2] at hq'
     exact hr.sep j j' q q' b1 c1 c2 (by omega) (by omega) hq hq' (hback j _ (by omega) h1) (hback j' _ (by omega) h2)
 · intro j b1 c1 hj
   by_cases e1 : j = h.n
   · subst e1
     rw [hlast] at hj
     have := hnew b1 c1 (Option.some.inj hj)
     exact ⟨this.1, this.2.1⟩
   · have hlt : j < (E ++ [e]).length := (List.getElem?_eq_some_iff.1 hj).1
     simp at hlt
     exact hr.old j b1 c1 (hback j _ (by omega) hj)
/-- A new block at the memory's end. -/
theorem Rep.alloc (hr : Rep w0 E h w) {ob : Obj} {o : AO} (c : Nat) (hn : h.n < 2 ^ D) (hi : Is (E ++ [.blk w.heap.size c]) c (some ob) o) : Rep w0 (E ++ [.blk w.heap.size c]) (h.new o) (w.alloc ob) := by
 have hb : Below w0.heap.size w0 (w.alloc ob) := hr.below.alloc hr.below.size ob
 have hr2 : Rep w0 E h (w.alloc ob) := hr.move hb (by simp only [World.alloc, Array.size_push]; omega) (fun k q b c' _ _ hk => Below.heap_alloc w ob b (hr.old k b c' hk).2)
 refine hr2.grow hn (OK.of_is (b := w.heap.size) (c := c) (by rw [← hr.len]; simp) ?_) ?_
 · rw [heap_alloc_new]
   exact hi
 · intro b c' hbc
   injection hbc with h1 h2
   subst h1
   refine ⟨hr.below.size, by simp only [World.alloc, Array.size_push]; omega, fun k q c2 hk hq he => ?_⟩
   have := (hr.old k _ _ he).2
   omega
end
end Go.Ev
