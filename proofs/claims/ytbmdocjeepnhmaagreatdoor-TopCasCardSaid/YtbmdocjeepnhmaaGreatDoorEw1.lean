/- A reckoner for closed runs: values and memory by names; what they stand for. -/
import Derived.RowKit
import Derived.WalkKit
import Derived.Calls
import Derived.Below
set_option linter.unusedVariables false
set_option linter.unusedSimpArgs false
set_option linter.unusedSectionVars false
namespace Go.Ev
open Go

/-- A capacity: known, or what is left of the block's own behind j elements. -/
inductive CapE where
 | ex (c : Nat)
 | un (j : Nat)
 deriving DecidableEq
/-- A value of one cell; blocks by names. -/
inductive A1 where
 | b (x : Bool)
 | i (k : IntKind) (n : Int)
 | s (x : List Nat)
 | nilp
 | p (k o : Nat)
 | nils
 | sl (k o n : Nat) (c : CapE)
 | stl (k o z a j : Nat)
 | nilm
 | m (k : Nat)
 | nili
 | nilf
 | f (fn : Nat)
 | clo (k : Nat)
 | ifc (t k : Nat)
 | y (i : Nat)
 | c (i : Nat)
 deriving DecidableEq
inductive A2 where
 | one (x : A1)
 | agg (l : List A1)
 deriving DecidableEq
inductive AV where
 | v (x : A2)
 | tup (l : List A2)
 deriving DecidableEq
inductive AO where
 | cells (t : Nat) (l : List A1)
 | row (t z : Nat) (l : List A1)
 | map (es : List (A1 × A2 × Nat)) (clock : Nat)
 | iter (k : Nat) (since : Nat) (seen : List Nat) (last : Nat)
 | siter (s : List Nat) (pos : Nat)
 | clo (fn : Nat) (caps : List A2)
 | ifc (t : Nat) (x : A2)
 | y (i : Nat)
 | mapx (es : List (A1 × A2))
 deriving DecidableEq
/-- What the letters stand for: values, and what blocks hold. -/
class Sy where
 v : Nat → A1
 o : Nat → AO
 c : Nat → Value
 one : ∀ i, (c i).oneCell' = true
 vb : ∀ i j, v i ≠ .y j
 vc : ∀ i, v i ≠ .c 0
 ob : ∀ i j, o i ≠ .y j
 oc : ∀ i f l, o i ≠ .clo f l
 oi : ∀ i t x, o i ≠ .ifc t x
def A1.den [Sy] : A1 → A1
 | .y q => Sy.v q
 | x => x
def AO.den [Sy] : AO → AO
 | .y q => Sy.o q
 | x => x
/-- What a name stands for. -/
inductive Ent where
 | blk (b c : Nat)
 | clo (v : Value)
 | none
def bytes (l : List Nat) : ByteArray := ⟨(l.map UInt8.ofNat).toArray⟩
def capOf (c : Nat) : CapE → Nat
 | .ex n => n
 | .un j => c - j
/-- What a plain value stands for. -/
def V0 [Sy] (E : List Ent) : A1 → Value → Prop
 | .b x, v => v = .bool x
 | .i k n, v => v = .int k n
 | .s l, v => v = .string (bytes l) ∧ ∀ c ∈ l, c < 256
 | .nilp, v => v = .pointer none
 | .p k o, v => ∃ b c, E[k]? = some (.blk b c) ∧ v = .pointer (some ⟨b, o, none⟩)
 | .nils, v => v = .slice none 0 0
 | .sl k o n ce, v => ∃ b c, E[k]? = some (.blk b c) ∧ v = .slice (some ⟨b, o, none⟩) n (capOf c ce) ∧ n ≤ capOf c ce
 | .stl k o z a j, v => ∃ b c, E[k]? = some (.blk b c) ∧ v = .slice (some (if c - j = a then ⟨b, o, none⟩ else ⟨b, o + a * z, none⟩)) 0 (c - j - a)
 | .nilm, v => v = .map none
 | .m k, v => ∃ b c, E[k]? = some (.blk b c) ∧ v = .map (some b)
 | .nili, v => v = .nilIface
 | .nilf, v => v = .nilFunc
 | .f fn, v => v = .func (.func fn) #[] #[]
 | .clo k, v => E[k]? = some (.clo v) ∧ ∃ fn cs, v = .func (.func fn) #[] cs
 | .ifc t k, v => E[k]? = some (.clo v) ∧ ∃ x, v = .iface t x
 | .y _, _ => False
 | .c 0, v => v.oneCell' = true
 | .c (i + 1), v => v = Sy.c i
/-- What a value stands for. -/
def V1 [Sy] (E : List Ent) (x : A1) (v : Value) : Prop := V0 E x.den v
/-- Two lists, element by element. -/
def All2 {α β : Type} (R : α → β → Prop) : List α → List β → Prop
 | [], [] => True
 | a :: as, b :: bs => R a b ∧ All2 R as bs
 | _, _ => False
def V2 [Sy] (E : List Ent) : A2 → Value → Prop
 | .one x, v => V1 E x v
 | .agg l, v => ∃ cs : List Value, All2 (V1 E) l cs ∧ v = .agg cs.toArray
def VV [Sy] (E : List Ent) : AV → Value → Prop
 | .v x, v => V2 E x v
 | .tup l, v => ∃ vs : List Value, All2 (V2 E) l vs ∧ v = .tuple vs.toArray

section
variable {α β : Type} {R R' : α → β → Prop}
theorem All2.length : ∀ {l : List α} {m : List β}, All2 R l m → l.length = m.length
 | [], [], _ => rfl
 | _ :: _, _ :: _, h => by simp [All2.length h.2]
theorem All2.imp (hr : ∀ a b, R a b → R' a b) : ∀ {l : List α} {m : List β}, All2 R l m → All2 R' l m
 | [], [], _ => trivial
 | _ :: _, _ :: _, h => ⟨hr _ _ h.1, All2.imp hr h.2⟩
theorem All2.get : ∀ {l : List α} {m : List β}, All2 R l m → ∀ (i : Nat) (a : α), l[i]? = some a → ∃ b, m[i]? = some b ∧ R a b
 | [], [], _, i, a, h => by simp at h
 | x :: l, y :: m, h, 0, a, ha => by
  simp only [List.getElem?_cons_zero, Option.some.injEq] at ha
  subst ha
  exact ⟨y, rfl, h.1⟩
 | x :: l, y :: m, h, i + 1, a, ha => by
  simp only [List.getElem?_cons_succ] at ha ⊢
  exact All2.get h.2 i a ha
theorem All2.set : ∀ {l : List α} {m : List β}, All2 R l m → ∀ (i : Nat) (a : α) (b : β), R a b → All2 R (l.set i a) (m.set i b)
 | [], [], _, _, _, _, _ => trivial
 | x :: l, y :: m, h, 0, a, b, hab => ⟨hab, h.2⟩
 | x :: l, y :: m, h, i + 1, a, b, hab => ⟨h.1, All2.set h.2 i a b hab⟩
theorem All2.append : ∀ {l : List α} {m : List β} {l' : List α} {m' : List β}, All2 R l m → All2 R l' m' → All2 R (l ++ l') (m ++ m')
 | [], [], _, _, _, h' => h'
 | _ :: _, _ :: _, _, _, h, h' => ⟨h.1, All2.append h.2 h'⟩
theorem All2.take : ∀ {l : List α} {m : List β}, All2 R l m → ∀ n, All2 R (l.take n) (m.take n)
 | [], [], _, n => by simp [All2]
 | _ :: _, _ :: _, _, 0 => trivial
 | _ :: _, _ :: _, h, n + 1 => ⟨h.1, All2.take h.2 n⟩
theorem All2.drop : ∀ {l : List α} {m : List β}, All2 R l m → ∀ n, All2 R (l.drop n) (m.drop n)
 | [], [], _, n => by simp [All2]
 | x :: l, y :: m, h, 0 => h
 | _ :: _, _ :: _, h, n + 1 => All2.drop h.2 n
theorem All2.replicate {a : α} {b : β} (h : R a b) : ∀ n, All2 R (List.replicate n a) (List.replicate n b)
 | 0 => trivial
 | n + 1 => ⟨h, All2.replicate h n⟩
theorem All2.eraseIdx : ∀ {l : List α} {m : List β}, All2 R l m → ∀ i, All2 R (l.eraseIdx i) (m.eraseIdx i)
 | [], [], _, i => by simp [All2]
 | _ :: _, _ :: _, h, 0 => h.2
 | x :: l, y :: m, h, i + 1 => ⟨h.1, All2.eraseIdx h.2 i⟩
theorem All2.map_ {γ δ : Type} {S : γ → δ → Prop} {f : γ → α} {g : δ → β} (hr : ∀ a b, S a b → R (f a) (g b)) : ∀ {l : List γ} {m : List δ}, All2 S l m → All2 R (l.map f) (m.map g)
 | [], [], _ => trivial
 | _ :: _, _ :: _, h => ⟨hr _ _ h.1, All2.map_ hr h.2⟩
theorem All2.mem : ∀ {l : List α} {m : List β}, All2 R l m → ∀ b ∈ m, ∃ a ∈ l, R a b
 | [], [], _, b, h => by simp at h
 | x :: l, y :: m, h, b, hb => by
  rcases List.mem_cons.1 hb with rfl | hb
  · exact ⟨x, List.mem_cons_self, h.1⟩
  · obtain ⟨a, ha, hr⟩ := All2.mem h.2 b hb
    exact ⟨a, List.mem_cons_of_mem _ ha, hr⟩
end
/-! ### More names -/
def Ext (E E' : List Ent) : Prop := E.length ≤ E'.length ∧ ∀ (k : Nat) (e : Ent), E[k]? = some e → e ≠ .none → E'[k]? = some e
theorem Ext.refl (E : List Ent) : Ext E E := ⟨Nat.le_refl _, fun _ _ h _ => h⟩
theorem Ext.trans {A B C : List Ent} (h : Ext A B) (k : Ext B C) : Ext A C := ⟨Nat.le_trans h.1 k.1, fun i e hi hn => k.2 i e (h.2 i e hi hn) hn⟩
theorem Ext.more (E t : List Ent) : Ext E (E ++ t) := ⟨by simp, fun k e hk _ => by rw [List.getElem?_append_left (List.getElem?_eq_some_iff.1 hk).1]; exact hk⟩
theorem Ext.one (E : List Ent) (e : Ent) : Ext E (E ++ [e]) := Ext.more E [e]
theorem Ext.fill (E : List Ent) (k : Nat) (e : Ent) (hk : E[k]? = some .none) : Ext E (E.set k e) := ⟨by simp, fun i f hi hn => by
 rw [List.getElem?_set]
 by_cases h : k = i
 · subst h
   rw [hk] at hi
   exact absurd (Option.some.inj hi).symm hn
 · rw [if_neg h]
   exact hi⟩
/-- All names of the one, and more. -/
def Pre (E E' : List Ent) : Prop := E.length ≤ E'.length ∧ ∀ k, k < E.length → E'[k]? = E[k]?
theorem Pre.refl (E : List Ent) : Pre E E := ⟨Nat.le_refl _, fun _ _ => rfl⟩
theorem Pre.trans {A B C : List Ent} (h : Pre A B) (k : Pre B C) : Pre A C := ⟨Nat.le_trans h.1 k.1, fun i hi => (k.2 i (Nat.lt_of_lt_of_le hi h.1)).trans (h.2 i hi)⟩
theorem Pre.more (E t : List Ent) : Pre E (E ++ t) := ⟨by simp, fun k hk => List.getElem?_append_left hk⟩
theorem Pre.one (E : List Ent) (e : Ent) : Pre E (E ++ [e]) := Pre.more E [e]
theorem Pre.ext {E E' : List Ent} (h : Pre E E') : Ext E E' := ⟨h.1, fun k e hk _ => (h.2 k (List.getElem?_eq_some_iff.1 hk).1).trans hk⟩
theorem Ext.blk {E E' : List Ent} (h : Ext E E') {k b c : Nat} (hk : E[k]? = some (.blk b c)) : E'[k]? = some (.blk b c) := h.2 k _ hk (by simp)
theorem Ext.clo {E E' : List Ent} (h : Ext E E') {k : Nat} {v : Value} (hk : E[k]? = some (.clo v)) : E'[k]? = some (.clo v) := h.2 k _ hk (by simp)
section Letters
variable [Sy]
theorem V0.ext {E E' : List Ent} (h : Ext E E') : ∀ (x : A1) (v : Value), V0 E x v → V0 E' x v
 | .b _, _, hv | .i _ _, _, hv | .s _, _, hv | .nilp, _, hv | .nils, _, hv | .nilm, _, hv | .nili, _, hv | .nilf, _, hv | .f _, _, hv | .y _, _, hv | .c 0, _, hv | .c (_ + 1), _, hv => hv
 | .p _ _, _, hv | .sl _ _ _ _, _, hv | .stl _ _ _ _ _, _, hv | .m _, _, hv => by
  obtain ⟨b, c, hk, hv⟩ := hv
  exact ⟨b, c, h.blk hk, hv⟩
 | .clo _, _, hv => ⟨h.clo hv.1, hv.2⟩
 | .ifc _ _, _, hv => ⟨h.clo hv.1, hv.2⟩
theorem V1.ext {E E' : List Ent} (h : Ext E E') (x : A1) (v : Value) (hv : V1 E x v) : V1 E' x v := V0.ext h _ _ hv
theorem V2.ext {E E' : List Ent} (h : Ext E E') : ∀ (x : A2) (v : Value), V2 E x v → V2 E' x v
 | .one _, _, hv => V1.ext h _ _ hv
 | .agg _, _, hv => by
  obtain ⟨cs, hc, hv⟩ := hv
  exact ⟨cs, hc.imp (V1.ext h), hv⟩
theorem VV.ext {E E' : List Ent} (h : Ext E E') : ∀ (x : AV) (v : Value), VV E x v → VV E' x v
 | .v _, _, hv => V2.ext h _ _ hv
 | .tup _, _, hv => by
  obtain ⟨cs, hc, hv⟩ := hv
  exact ⟨cs, hc.imp (V2.ext h), hv⟩
theorem V0.oneCell {E : List Ent} : ∀ (x : A1) (v : Value), V0 E x v → v.oneCell' = true
 | .b _, _, hv | .i _ _, _, hv | .nilp, _, hv | .nils, _, hv | .nilm, _, hv | .nili, _, hv | .nilf, _, hv | .f _, _, hv => by cases hv; rfl
 | .s _, _, hv => by cases hv.1; rfl
 | .p _ _, _, hv | .stl _ _ _ _ _, _, hv | .m _, _, hv => by
  obtain ⟨b, c, hk, hv⟩ := hv
  cases hv
  rfl
 | .sl _ _ _ _, _, hv => by
  obtain ⟨b, c, hk, hv, _⟩ := hv
  cases hv
  rfl
 | .clo _, _, hv => by
  obtain ⟨_, fn, cs, hv⟩ := hv
  cases hv
  rfl
 | .ifc _ _, _, hv => by
  obtain ⟨_, x, hv⟩ := hv
  cases hv
  rfl
 | .y _, _, hv => hv.elim
 | .c 0, _, hv => hv
 | .c (i + 1), _, hv => by cases hv; exact Sy.one i
theorem V1.oneCell {E : List Ent} (x : A1) (v : Value) (hv : V1 E x v) : v.oneCell' = true := V0.oneCell _ _ hv
end Letters
/-! ### Memory -/
inductive Tr (α : Type) where
 | lf (o : Option α)
 | nd (l r : Tr α)
 deriving DecidableEq
section
variable {α : Type}
def Tr.get : Nat → Tr α → Nat → Option α
 | 0, .lf o, _ => o
 | d + 1, .nd l r, k => bif Nat.beq (k % 2) 0 then Tr.get d l (k / 2) else Tr.get d r (k / 2)
 | _, _, _ => none
def Tr.set : Nat → Tr α → Nat → Option α → Tr α
 | 0, _, _, o => .lf o
 | d + 1, .nd l r, k, o => bif Nat.beq (k % 2) 0 then .nd (Tr.set d l (k / 2) o) r else .nd l (Tr.set d r (k / 2) o)
 | d + 1, .lf _, k, o => bif Nat.beq (k % 2) 0 then .nd (Tr.set d (.lf none) (k / 2) o) (.lf none) else .nd (.lf none) (Tr.set d (.lf none) (k / 2) o)
theorem Tr.get_lf (d k : Nat) : Tr.get d (.lf none : Tr α) k = none := by cases d <;> rfl
theorem Tr.get_lf' (d k : Nat) (o : Option α) : Tr.get (d + 1) (.lf o) k = none := rfl
theorem Tr.get_nd (d k : Nat) (l r : Tr α) : Tr.get (d + 1) (.nd l r) k = bif Nat.beq (k % 2) 0 then Tr.get d l (k / 2) else Tr.get d r (k / 2) := rfl
theorem Tr.set_nd (d k : Nat) (l r : Tr α) (o : Option α) : Tr.set (d + 1) (.nd l r) k o = bif Nat.beq (k % 2) 0 then .nd (Tr.set d l (k / 2) o) r else .nd l (Tr.set d r (k / 2) o) := rfl
theorem Tr.set_lf (d k : Nat) (x o : Option α) : Tr.set (d + 1) (.lf x) k o = bif Nat.beq (k % 2) 0 then .nd (Tr.set d (.lf none) (k / 2) o) (.lf none) else .nd (.lf none) (Tr.set d (.lf none) (k / 2) o) := rfl
theorem Tr.get_same : ∀ (d : Nat) (t : Tr α) (k : Nat) (o : Option α), Tr.get d (Tr.set d t k o) k = o
 | 0, _, _, _ => rfl
 | d + 1, .nd l r, k, o => by
  rw [Tr.set_nd]
  cases h : Nat.beq (k % 2) 0
  · simp only [cond_false]
    rw [Tr.get_nd, h, cond_false]
    exact Tr.get_same d r (k / 2) o
  · simp only [cond_true]
    rw [Tr.get_nd, h, cond_true]
    exact Tr.get_same d l (k / 2) o
 | d + 1, .lf _, k, o => by
  rw [Tr.set_lf]
  cases h : Nat.beq (k % 2) 0
  · simp only [cond_false]
    rw [Tr.get_nd, h, cond_false]
    exact Tr.get_same d _ (k / 2) o
  · simp only [cond_true]
    rw [Tr.get_nd, h, cond_true]
    exact Tr.get_same d _ (k / 2) o
theorem beq_mod {k : Nat} : (Nat.beq (k % 2) 0 = true ↔ k % 2 = 0) := by simp [Nat.beq_eq]
theorem Tr.get_other : ∀ (d : Nat) (t : Tr α) (k j : Nat) (o : Option α), k < 2 ^ d → j < 2 ^ d → j ≠ k → Tr.get d (Tr.set d t k o) j = Tr.get d t j
 | 0, _, k, j, _, hk, hj, hne => by simp at hk hj; omega
 | d + 1, .nd l r, k, j, o, hk, hj, hne => by
  have hk2 : k / 2 < 2 ^ d := by rw [Nat.pow_succ] at hk; omega
  have hj2 : j / 2 < 2 ^ d := by rw [Nat.pow_succ] at hj; omega
  rw [Tr.set_nd]
  cases h : Nat.beq (k % 2) 0 <;> cases h2 : Nat.beq (j % 2) 0 <;> simp only [cond_false, cond_true, Tr.get_nd, h2]
  · refine Tr.get_other d r (k / 2) (j / 2) o hk2 hj2 ?_
    have a1 : ¬ k % 2 = 0 := fun e => by rw [beq_mod.2 e] at h; cases h
    have a2 : ¬ j % 2 = 0 := fun e => by rw [beq_mod.2 e] at h2; cases h2
    omega
  · refine Tr.get_other d l (k / 2) (j / 2) o hk2 hj2 ?_
    have a1 := beq_mod.1 h
    have a2 := beq_mod.1 h2
    omega
 | d + 1, .lf x, k, j, o, hk, hj, hne => by
  have hk2 : k / 2 < 2 ^ d := by rw [Nat.pow_succ] at hk; omega
  have hj2 : j / 2 < 2 ^ d := by rw [Nat.pow_succ] at hj; omega
  rw [Tr.get_lf', Tr.set_lf]
  cases h : Nat.beq (k % 2) 0 <;> cases h2 : Nat.beq (j % 2) 0 <;> simp only [cond_false, cond_true, Tr.get_nd, h2, Tr.get_lf]
  · rw [Tr.get_other d _ (k / 2) (j / 2) o hk2 hj2 (by
      have a1 : ¬ k % 2 = 0 := fun e => by rw [beq_mod.2 e] at h; cases h
      have a2 : ¬ j % 2 = 0 := fun e => by rw [beq_mod.2 e] at h2; cases h2
      omega), Tr.get_lf]
  · rw [Tr.get_other d _ (k / 2) (j / 2) o hk2 hj2 (by
      have a1 := beq_mod.1 h
      have a2 := beq_mod.1 h2
      omega), Tr.get_lf]
end
end Go.Ev
namespace Go.Ev
open Go Go.RowKit
variable [Sy]
abbrev D : Nat := 11
structure Hp where
 t : Tr AO
 n : Nat
 deriving DecidableEq
def Hp.get (h : Hp) (k : Nat) : Option AO := Tr.get D h.t k
def Hp.put (h : Hp) (k : Nat) (o : AO) : Hp := { t := Tr.set D h.t k (some o), n := h.n }
def Hp.del (h : Hp) (k : Nat) : Hp := { t := Tr.set D h.t k none, n := h.n }
def Hp.new (h : Hp) (o : AO) : Hp := { t := Tr.set D h.t h.n (some o), n := h.n + 1 }
/-- An entry of a map. -/
def ME (E : List Ent) (e : A1 × A2 × Nat) (m : MapEntry) : Prop := V1 E e.1 m.key ∧ V2 E e.2.1 m.val ∧ m.born = e.2.2
def FrOk (n : Nat) (fr : Nat × Nat) : Prop := n ≤ fr.1 ∨ fr = (0, 0)
/-- What a block holds (c: the capacity of its name). -/
def Is0 (E : List Ent) (c : Nat) (x : Option Obj) : AO → Prop
 | .cells t l => ∃ cs fr, x = some (.cells cs t fr) ∧ FrOk cs.size fr ∧ All2 (V1 E) l cs.toList
 | .row t z l => ∃ cs fr, x = some (.cells cs t fr) ∧ FrOk cs.size fr ∧ cs.size = c * z ∧ c ≤ maxLen ∧ All2 (V1 E) l (cs.toList.take l.length)
 | .map es clock => ∃ ms, x = some (.map ms clock) ∧ All2 (ME E) es ms.toList
 | .iter k since seen last => ∃ b c', E[k]? = some (.blk b c') ∧ x = some (.mapIter (some b) since seen.toArray last)
 | .siter s pos => x = some (.stringIter (bytes s) pos)
 | .clo _ _ => False
 | .ifc _ _ => False
 | .y _ => False
 | .mapx es => ∃ ms cl, x = some (.map ms cl) ∧ All2 (fun (e : A1 × A2) (m : MapEntry) => V1 E e.1 m.key ∧ V2 E e.2 m.val) es ms.toList
def Is (E : List Ent) (c : Nat) (x : Option Obj) (o : AO) : Prop := Is0 E c x o.den
def OK (E : List Ent) (w : World) (k : Nat) : AO → Prop
 | .clo fn caps => ∃ cs : List Value, E[k]? = some (.clo (.func (.func fn) #[] cs.toArray)) ∧ All2 (V2 E) caps cs
 | .ifc t x => ∃ v : Value, E[k]? = some (.clo (.iface t v)) ∧ V2 E x v
 | o => ∃ b c, E[k]? = some (.blk b c) ∧ Is E c w.heap[b]? o
theorem OK.of_is {E : List Ent} {w : World} {k : Nat} {o : AO} {b c : Nat} (hk : E[k]? = some (.blk b c)) (h : Is E c w.heap[b]? o) : OK E w k o := by
 cases o <;> first | exact ⟨b, c, hk, h⟩ | exact h.elim
theorem OK.is {E : List Ent} {w : World} {k : Nat} {o : AO} {b c : Nat} (h : OK E w k o) (hk : E[k]? = some (.blk b c)) : Is E c w.heap[b]? o := by
 cases o <;> first
 | (obtain ⟨b', c', hk', h'⟩ := h
    rw [hk] at hk'
    injection hk' with hk'
    injection hk' with h1 h2
    subst h1; subst h2
    exact h')
 | (obtain ⟨cs, hk', _⟩ := h
    rw [hk] at hk'
    injection hk' with hk'
    cases hk')
/-- A world ahead, and which of its blocks are to stay as they are. -/
structure Base where
 w : World
 pr : Nat → Prop
 lt : ∀ b, pr b → b < w.heap.size
structure Kept (z : Base) (w : World) : Prop where
 os : w.os = z.w.os
 tape : w.tape = z.w.tape
 output : w.output = z.w.output
 size : z.w.heap.size ≤ w.heap.size
 block : ∀ k, z.pr k → w.heap[k]? = z.w.heap[k]?
theorem Kept.new {z : Base} {w : World} (h : Kept z w) : ¬ z.pr w.heap.size := fun hp => by
 have h1 := z.lt _ hp
 have h2 := h.size
 omega
theorem Kept.alloc {z : Base} {w : World} (h : Kept z w) (o : Obj) : Kept z (w.alloc o) := ⟨h.os, h.tape, h.output, Nat.le_trans h.size (by simp), fun k hk => by
 rw [Below.heap_alloc w o k (Nat.lt_of_lt_of_le (z.lt k hk) h.size)]
 exact h.block k hk⟩
theorem Kept.drew {z : Base} {w : World} (h : Kept z w) : Kept z w.drew := ⟨h.os, h.tape, h.output, h.size, h.block⟩
theorem Kept.setCell {z : Base} {w : World} (h : Kept z w) {p : Addr} (hp : ¬ z.pr p.block) (u : Value) : Kept z (w.setCell p u) := ⟨h.os, h.tape, h.output, by simpa [World.setCell] using h.size, fun k hk => by
 rw [Below.heap_setCell w p u k (fun e => hp (e ▸ hk))]
 exact h.block k hk⟩
structure Rep (w0 : Base) (E : List Ent) (h : Hp) (w : World) : Prop where
 below : Kept w0 w
 len : E.length = h.n
 bound : h.n ≤ 2 ^ D
 obj : ∀ (k : Nat) (o : AO), k < h.n → h.get k = some o → OK E w k o
 free : ∀ (k : Nat), h.n ≤ k → k < 2 ^ D → h.get k = none
 sep : ∀ (k k' : Nat) (o o' : AO) (b c c' : Nat), k < h.n → k' < h.n → h.get k = some o → h.get k' = some o' → E[k]? = some (Ent.blk b c) → E[k']? = some (Ent.blk b c') → k = k'
 old : ∀ (k : Nat) (o : AO) (b c : Nat), k < h.n → h.get k = some o → E[k]? = some (Ent.blk b c) → ¬ w0.pr b ∧ b < w.heap.size
section
variable {E E' : List Ent} {c : Nat} {x : Option Obj} {o : AO} {w0 : Base} {w w' : World} {h : Hp}
theorem ME.ext (he : Ext E E') (e : A1 × A2 × Nat) (m : MapEntry) (hm : ME E e m) : ME E' e m := ⟨V1.ext he _ _ hm.1, V2.ext he _ _ hm.2.1, hm.2.2⟩
theorem Is0.ext (he : Ext E E') (hi : Is0 E c x o) : Is0 E' c x o := by
 cases o with
 | cells t l =>
  obtain ⟨cs, fr, h1, h2, h3⟩ := hi
  exact ⟨cs, fr, h1, h2, h3.imp (V1.ext he)⟩
 | row t z l =>
  obtain ⟨cs, fr, h1, h2, h3, h4, h5⟩ := hi
  exact ⟨cs, fr, h1, h2, h3, h4, h5.imp (V1.ext he)⟩
 | map es clock =>
  obtain ⟨ms, h1, h2⟩ := hi
  exact ⟨ms, h1, h2.imp (ME.ext he)⟩
 | iter k since seen last =>
  obtain ⟨b, c', h1, h2⟩ := hi
  exact ⟨b, c', he.blk h1, h2⟩
 | siter s pos => exact hi
 | clo fn caps => exact hi
 | ifc t x => exact hi
 | y i => exact hi
 | mapx es =>
  obtain ⟨ms, cl, h1, h2⟩ := hi
  exact ⟨ms, cl, h1, h2.imp (fun e m hm => ⟨V1.ext he _ _ hm.1, V2.ext he _ _ hm.2⟩)⟩
theorem Is.ext (he : Ext E E') (hi : Is E c x o) : Is E' c x o := Is0.ext he hi
theorem OK.ext {k : Nat} (he : Ext E E') (hi : OK E w k o) : OK E' w k o := by
 cases o <;> first
 | (obtain ⟨b, c, hk, h2⟩ := hi
    exact ⟨b, c, he.blk hk, h2.ext he⟩)
 | (obtain ⟨cs, hk, h2⟩ := hi
    exact ⟨cs, he.clo hk, h2.imp (V2.ext he)⟩)
 | (obtain ⟨v, hk, h2⟩ := hi
    exact ⟨v, he.clo hk, V2.ext he _ _ h2⟩)
theorem lt_of_get {k : Nat} {e : Ent} (hr : Rep w0 E h w) (hk : E[k]? = some e) : k < h.n := by
 rw [← hr.len]
 exact (List.getElem?_eq_some_iff.1 hk).1
/-- A world that keeps the blocks of what is told. -/
theorem Rep.move (hr : Rep w0 E h w) (hb : Kept w0 w') (hs : w.heap.size ≤ w'.heap.size)
  (hm : ∀ (k : Nat) (o : AO) (b c : Nat), k < h.n → h.get k = some o → E[k]? = some (Ent.blk b c) → w'.heap[b]? = w.heap[b]?) : Rep w0 E h w' where
 below := hb
 len := hr.len
 bound := hr.bound
 free := hr.free
 sep := hr.sep
 old := fun k o b c hn ho hk => ⟨(hr.old k o b c hn ho hk).1, Nat.lt_of_lt_of_le (hr.old k o b c hn ho hk).2 hs⟩
 obj := fun k o hk ho => by
  have h1 := hr.obj k o hk ho
  cases o <;> first
  | (obtain ⟨b, c, hk', h2⟩ := h1
     refine ⟨b, c, hk', ?_⟩
     rw [hm k _ b c hk ho hk']
     exact h2)
  | exact h1
/-- The block of one name holds something else. -/
theorem Rep.put (hr : Rep w0 E h w) {k b c : Nat} {o o' : AO} (hk : E[k]? = some (.blk b c)) (ho : h.get k = some o) (hb : Kept w0 w') (hs : w.heap.size ≤ w'.heap.size)
  (hi : Is E c w'.heap[b]? o') (hm : ∀ j, j ≠ b → j < w.heap.size → w'.heap[j]? = w.heap[j]?) : Rep w0 E (h.put k o') w' := by
 have hkn := lt_of_get hr hk
 have hkd := Nat.lt_of_lt_of_le hkn hr.bound
 have hother : ∀ j, j < 2 ^ D → j ≠ k → (h.put k o').get j = h.get j := fun j hj hne => Tr.get_other D h.t k j _ hkd hj hne
 refine ⟨hb, hr.len, hr.bound, ?_, ?_, ?_, ?_⟩
 · intro j q hj hq
   have hj2 : j < h.n := hj
   have hjd := Nat.lt_of_lt_of_le hj2 hr.bound
   by_cases hjk : j = k
   · subst hjk
     have hq2 : q = o' := by
      have : (h.put j o').get j = some o' := Tr.get_same D h.t j _
      rw [this] at hq
      exact (Option.some.inj hq).symm
     subst hq2
     exact OK.of_is hk hi
   · rw [hother j hjd hjk] at hq
     have h1 := hr.obj j q hj2 hq
     cases q <;> first
     | (obtain ⟨b', c', hk', h2⟩ := h1
        refine ⟨b', c', hk', ?_⟩
        rw [hm b' (fun e => hjk (by subst e; exact hr.sep j k _ _ _ _ _ hj2 hkn hq ho hk' hk)) (hr.old j _ b' c' hj2 hq hk').2]
        exact h2)
     | exact h1
 · intro j hj hjd
   have hj2 : h.n ≤ j := hj
   rw [hother j hjd (by omega)]
   exact hr.free j hj hjd
 · intro j j' q q' b1 c1 c2 hj hj' hq hq' h1 h2
   have live : ∀ i z, i < h.n → (h.put k o').get i = some z → ∃ z', h.get i = some z' := by
    intro i z hi hz
    by_cases e : i = k
    · subst e; exact ⟨o, ho⟩
    · rw [hother i (Nat.lt_of_lt_of_le hi hr.bound) e] at hz
      exact ⟨z, hz⟩
   obtain ⟨z, hz⟩ := live j q hj hq
   obtain ⟨z', hz'⟩ := live j' q' hj' hq'
   exact hr.sep j j' z z' b1 c1 c2 hj hj' hz hz' h1 h2
 · intro j q b1 c1 hj2 hq hj
   have hj2 : j < h.n := hj2
   obtain ⟨z, hz⟩ : ∃ z, h.get j = some z := by
    by_cases e : j = k
    · subst e; exact ⟨o, ho⟩
    · rw [hother j (Nat.lt_of_lt_of_le hj2 hr.bound) e] at hq
      exact ⟨q, hq⟩
   exact ⟨(hr.old j z b1 c1 hj2 hz hj).1, Nat.lt_of_lt_of_le (hr.old j z b1 c1 hj2 hz hj).2 hs⟩
/-- A name is told of no more. -/
theorem Rep.del (hr : Rep w0 E h w) {k : Nat} (hk : k < h.n) : Rep w0 E (h.del k) w := by
 have hkd := Nat.lt_of_lt_of_le hk hr.bound
 have hother : ∀ j, j < 2 ^ D → j ≠ k → (h.del k).get j = h.get j := fun j hj hne => Tr.get_other D h.t k j _ hkd hj hne
 have hsame : (h.del k).get k = none := Tr.get_same D h.t k none
 have live : ∀ i z, i < h.n → (h.del k).get i = some z → h.get i = some z := by
  intro i z hi hz
  by_cases e : i = k
  · subst e
    rw [hsame] at hz
    cases hz
  · rwa [hother i (Nat.lt_of_lt_of_le hi hr.bound) e] at hz
 refine ⟨hr.below, hr.len, hr.bound, fun j q hj hq => hr.obj j q hj (live j q hj hq), fun j hj hjd => ?_, fun j j' q q' b1 c1 c2 hj hj' hq hq' h1 h2 => hr.sep j j' q q' b1 c1 c2 hj hj' (live j q hj hq) (live j' q' hj' hq') h1 h2, fun j q b1 c1 hj hq he => hr.old j q b1 c1 hj (live j q hj hq) he⟩
 have hj2 : h.n ≤ j := hj
 rw [hother j hjd (by omega)]
 exact hr.free j hj hjd
/-- A new name. -/
theorem Rep.grow (hr : Rep w0 E h w) {e : Ent} {o : AO} (hn : h.n < 2 ^ D) (hok : OK (E ++ [e]) w h.n o)
  (hnew : ∀ (b c : Nat), e = Ent.blk b c → ¬ w0.pr b ∧ b < w.heap.size ∧ ∀ (k : Nat) (q : AO) (c' : Nat), k < h.n → h.get k = some q → E[k]? ≠ some (Ent.blk b c')) : Rep w0 (E ++ [e]) (h.new o) w := by
 have hl : E.length = h.n := hr.len
 have hx : Ext E (E ++ [e]) := Ext.one E e
 have hlast : (E ++ [e])[h.n]? = some e := by rw [← hl]; simp
 have hback : ∀ k f, k < h.n → (E ++ [e])[k]? = some f → E[k]? = some f := by
  intro k f hk hf
  rwa [List.getElem?_append_left (by omega)] at hf
 have hother : ∀ j, j < 2 ^ D → j ≠ h.n → (h.new o).get j = h.get j := fun j hj hne => Tr.get_other D h.t h.n j _ hn hj hne
 have hsame : (h.new o).get h.n = some o := Tr.get_same D h.t h.n _
 refine ⟨hr.below, by simp [hl, Hp.new], hn, ?_, ?_, ?_, ?_⟩
 · intro j q hj hq
   have hj2 : j < h.n + 1 := hj
   by_cases hjn : j = h.n
   · subst hjn
     rw [hsame] at hq
     cases hq
     exact hok
   · rw [hother j (by omega) hjn] at hq
     exact (hr.obj j q (by omega) hq).ext hx
 · intro j hj hjd
   have hj2 : h.n + 1 ≤ j := hj
   rw [hother j hjd (by omega)]
   exact hr.free j (by omega) hjd
 · intro j j' q q' b1 c1 c2 hj hj' hq hq' h1 h2
   have hj2 : j < h.n + 1 := hj
   have hj2' : j' < h.n + 1 := hj'
   by_cases e1 : j = h.n <;> by_cases e2 : j' = h.n
   · omega
   · subst e1
     rw [hlast] at h1
     rw [hother j' (by omega) e2] at hq'
     exact absurd (hback j' _ (by omega) h2) ((hnew b1 c1 (Option.some.inj h1)).2.2 j' q' c2 (by omega) hq')
   · subst e2
     rw [hlast] at h2
     rw [hother j (by omega) e1] at hq
     exact absurd (hback j _ (by omega) h1) ((hnew b1 c2 (Option.some.inj h2)).2.2 j q c1 (by omega) hq)
   · rw [hother j (by omega) e1] at hq
     rw [hother j' (by omega) e2] at hq'
     exact hr.sep j j' q q' b1 c1 c2 (by omega) (by omega) hq hq' (hback j _ (by omega) h1) (hback j' _ (by omega) h2)
 · intro j q b1 c1 hjn hq hj
   have hjn : j < h.n + 1 := hjn
   by_cases e1 : j = h.n
   · subst e1
     rw [hlast] at hj
     have := hnew b1 c1 (Option.some.inj hj)
     exact ⟨this.1, this.2.1⟩
   · rw [hother j (by omega) e1] at hq
     exact hr.old j q b1 c1 (by omega) hq (hback j _ (by omega) hj)
/-- A new block at the memory's end. -/
theorem Rep.alloc (hr : Rep w0 E h w) {ob : Obj} {o : AO} (c : Nat) (hn : h.n < 2 ^ D) (hi : Is (E ++ [.blk w.heap.size c]) c (some ob) o) : Rep w0 (E ++ [.blk w.heap.size c]) (h.new o) (w.alloc ob) := by
 have hb : Kept w0 (w.alloc ob) := hr.below.alloc ob
 have hr2 : Rep w0 E h (w.alloc ob) := hr.move hb (by simp only [World.alloc, Array.size_push]; omega) (fun k q b c' _ _ hk => Below.heap_alloc w ob b (hr.old k q b c' (by assumption) (by assumption) hk).2)
 refine hr2.grow hn (OK.of_is (b := w.heap.size) (c := c) (by rw [← hr.len]; simp) ?_) ?_
 · rw [heap_alloc_new]
   exact hi
 · intro b c' hbc
   injection hbc with h1 h2
   subst h1
   refine ⟨hr.below.new, by simp only [World.alloc, Array.size_push]; omega, fun k q c2 hk hq he => ?_⟩
   have := (hr.old k q _ _ hk hq he).2
   omega
end
end Go.Ev
namespace Go.Ev
open Go Go.RowKit
def A2.cells : A2 → List A1
 | .one x => [x]
 | .agg l => l
def undefA : AV := .tup []
def asA1 : Value → Option A1
 | .bool x => some (.b x)
 | .int k n => some (.i k n)
 | .string s => some (.s (s.data.toList.map UInt8.toNat))
 | .pointer none => some .nilp
 | .slice none 0 0 => some .nils
 | .map none => some .nilm
 | .nilFunc => some .nilf
 | .nilIface => some .nili
 | .func (.func f) first caps => if first.size = 0 ∧ caps.size = 0 then some (.f f) else none
 | _ => none
def allSome {α β : Type} (f : α → Option β) : List α → Option (List β)
 | [] => some []
 | a :: l => match f a, allSome f l with
   | some b, some m => some (b :: m)
   | _, _ => none
def asA2 : Value → Option A2
 | .agg cs => (allSome asA1 cs.toList).map .agg
 | v => (asA1 v).map .one
def asAV : Value → Option AV
 | .tuple vs => if vs.size = 0 then some (.tup []) else none
 | v => (asA2 v).map .v
/-- A frame's temporaries. -/
abbrev Fr := Tr AV
abbrev DT : Nat := 8
def evA (A : Fr) : Operand → Option AV
 | .tmp t => bif Nat.blt t 256 then Tr.get DT A t else none
 | .const v => asAV v
 | .func f => some (.v (.one (.f f)))
 | .global _ => none
/-- What an operation turns in memory. -/
inductive U where
 | put (k : Nat) (o : AO)
 | new (o : AO)
 | del (k : Nat)
def apU (h : Hp) : List U → Hp
 | [] => h
 | .put k o :: r => apU (h.put k o) r
 | .new o :: r => apU (h.new o) r
 | .del k :: r => apU (h.del k) r
section
variable (P : Program)
def sizeT (t : TypeId) : Option Nat := (P.info? t).map (·.size)
def bytesT (t : TypeId) : Option Nat := (P.info? t).map (·.bytes)
def zeroT (t : TypeId) : Option A2 := ((P.info? t).bind (·.zero)).bind asA2
def isAggT (t : TypeId) : Option Bool := (P.underlying t).map fun d => match d with | .struct _ | .array _ _ => true | _ => false
def rowOf : AO → Option (List A1)
 | .cells _ l => some l
 | .row _ _ l => some l
 | _ => none
def reRow : AO → List A1 → Option AO
 | .cells t _, l => some (.cells t l)
 | .row t z _, l => some (.row t z l)
 | _, _ => none
/-- n cells from o on. -/
def seg (l : List A1) (o n : Nat) : Option (List A1) := if o + n ≤ l.length then some ((l.drop o).take n) else none
def over (l : List A1) (o : Nat) (cs : List A1) : Option (List A1) := if o + cs.length ≤ l.length then some (l.take o ++ cs ++ l.drop (o + cs.length)) else none
def evLoad (t : TypeId) (x : AV) (h : Hp) : Option AV :=
 match x with
 | .v (.one (.p k o)) =>
  match (h.get k).bind rowOf, isAggT P t with
  | some l, some false => (l[o]?).map fun y => .v (.one y)
  | some l, some true => match sizeT P t with
    | some n => (seg l o n).map fun m => .v (.agg m)
    | none => none
  | _, _ => none
 | _ => none
def evStore (t : TypeId) (x y : AV) (h : Hp) : Option (List U) :=
 match x, y with
 | .v (.one (.p k o)), .v w =>
  match h.get k, sizeT P t with
  | some q, some n => if w.cells.length = n then
     match rowOf q with
     | some l => match over l o w.cells with
       | some l' => (reRow q l').map fun q' => [.put k q']
       | none => none
     | none => none
    else none
  | _, _ => none
 | _, _ => none
def fieldOff (s : TypeId) (f : Nat) : Option (Nat × TypeId) :=
 match P.underlying s with
 | some (.struct fs) => (fs[f]?).map fun x => (x.offset, x.type)
 | _ => none
def intOf : AV → Option Int
 | .v (.one (.i _ n)) => some n
 | _ => none
def elemT (t : TypeId) : Option TypeId :=
 match P.underlying t with
 | some (.slice e) => some e
 | _ => none
def evIndexAddr (t : TypeId) (x i : AV) : Option AV :=
 match P.underlying t, x, intOf i with
 | some (.slice e), .v (.one (.sl k o n c)), some j => if 0 ≤ j ∧ j < n then (sizeT P e).map fun z => .v (.one (.p k (o + j.toNat * z))) else none
 | some (.array n e), .v (.one (.p k o)), some j => if 0 ≤ j ∧ j < n then (sizeT P e).map fun z => .v (.one (.p k (o + j.toNat * z))) else none
 | _, _, _ => none
def bnd (d : Nat) : Option AV → Option Nat
 | none => some d
 | some x => (intOf x).bind fun i => if 0 ≤ i then some i.toNat else none
def evSlice (t : TypeId) (x : AV) (lo hi mx : Option AV) : Option AV :=
 match P.underlying t, x, mx with
 | some .string, .v (.one (.s l)), none =>
  match bnd 0 lo, bnd l.length hi with
  | some a, some b => if a ≤ b ∧ b ≤ l.length then some (.v (.one (.s ((l.drop a).take (b - a))))) else none
  | _, _ => none
 | some (.slice e), .v (.one .nils), none =>
  match sizeT P e, bnd 0 lo, bnd 0 hi with
  | some _, some 0, some 0 => some (.v (.one .nils))
  | _, _, _ => none
 | some (.slice e), .v (.one (.sl k o n c)), none =>
  match sizeT P e, bnd 0 lo, bnd n hi, c with
  | some z, some a, some b, .ex m => if a ≤ b ∧ b ≤ m ∧ a < m then some (.v (.one (.sl k (o + a * z) (b - a) (.ex (m - a))))) else none
  | some z, some a, some b, .un j => if a ≤ b ∧ b ≤ n ∧ a < n then some (.v (.one (.sl k (o + a * z) (b - a) (.un (j + a))))) else if a = n ∧ b = n then some (.v (.one (.stl k o z a j))) else none
  | _, _, _, _ => none
 | some (.slice e), .v (.one (.sl k o n c)), some mx =>
  match sizeT P e, bnd 0 lo, hi, bnd 0 (some mx) with
  | some z, some a, some hv, some m => match bnd 0 (some hv) with
    | some b => if a ≤ b ∧ b ≤ m ∧ a < m ∧ m ≤ n then some (.v (.one (.sl k (o + a * z) (b - a) (.ex (m - a))))) else none
    | none => none
  | _, _, _, _ => none
 | _, _, _ => none
/-- The cells of what is appended or copied. -/
def cellsIn (h : Hp) (z : Nat) : AV → Option (List A1)
 | .v (.one (.sl k o n _)) => ((h.get k).bind rowOf).bind fun l => seg l o (n * z)
 | _ => none
def lenIn : AV → Option Nat
 | .v (.one .nils) => some 0
 | .v (.one (.sl _ _ n _)) => some n
 | .v (.one (.stl ..)) => some 0
 | _ => none
def mkRow (h : Hp) (e z : Nat) (l : List A1) (n : Nat) (us : List U) : Option (AV × List U) :=
 match zeroT P e, bytesT P e with
 | some zz, some b => if h.n < 2 ^ D ∧ zz.cells.length = z ∧ n * b ≤ 140737488355328 ∧ n ≤ 1000000 ∧ l.length = n * z then some (.v (.one (.sl h.n 0 n (.un 0))), us ++ [.new (.row e z l)]) else none
 | _, _ => none
def evAppend (h : Hp) (t u : TypeId) (s x : AV) : Option (AV × List U) :=
 if t = u then
 match elemT P t, x with
 | some e, .v (.one (.sl _ _ m _)) =>
  match sizeT P e with
  | some z =>
   match cellsIn h z x with
   | none => none
   | some cs =>
    match s with
    | .v (.one .nils) => if m = 0 then none else mkRow P h e z cs m []
    | .v (.one (.sl k o n (.ex c))) =>
      if n + m ≤ c then none
      else match cellsIn h z s with
       | some old => mkRow P h e z (old ++ cs) (n + m) []
       | none => none
    | .v (.one (.sl k 0 n (.un 0))) =>
      if m = 0 then none else
      match h.get k with
      | some (.row t' z' l) => if t' = e ∧ z' = z ∧ n * z ≤ l.length then mkRow P h e z (l.take (n * z) ++ cs) (n + m) [.del k] else none
      | _ => none
    | _ => none
  | none => none
 | _, _ => none
 else none
def evCopy (h : Hp) (t : TypeId) (d x : AV) : Option (AV × List U) :=
 match elemT P t with
 | none => none
 | some e =>
  match sizeT P e, d, x with
  | some z, .v (.one (.sl k o a _)), .v (.one (.sl _ _ b _)) =>
   match cellsIn h z x, h.get k with
   | some cs, some q => match rowOf q with
      | some l => match over l o (cs.take (Nat.min b a * z)) with
        | some l' => (reRow q l').map fun q' => (.v (.one (.i .i64 (Nat.min b a : Nat))), [.put k q'])
        | none => none
      | none => none
   | _, _ => none
  | _, _, _ => none
/-- Two lists of numbers, the same? -/
def eqL : List Nat → List Nat → Bool
 | [], [] => true
 | a :: l, b :: m => bif Nat.beq a b then eqL l m else false
 | _, _ => false
def sameKey : A1 → A1 → Option Bool
 | .i k a, .i k' b => if k = k' then some (a == b) else none
 | .s a, .s b => some (eqL a b)
 | _, _ => none
def keyOk : Option TypeDesc → A1 → Bool
 | some (.int _), .i _ _ => true
 | some .string, .s _ => true
 | _, _ => false
/-- The first entry that is the key's: where, and what. -/
def findE (k : A1) : List (A1 × A2 × Nat) → Nat → Option (Option (Nat × A2))
 | [], _ => some none
 | e :: es, i => match sameKey k e.1 with
   | some true => some (some (i, e.2.1))
   | some false => findE k es (Nat.succ i)
   | none => none
def mapOf (h : Hp) : AV → Option (List (A1 × A2 × Nat))
 | .v (.one (.m k)) => match h.get k with
   | some (.map es _) => some es
   | _ => none
 | _ => none
def evLookup (h : Hp) (t : TypeId) (x i : AV) (ok : Bool) : Option AV :=
 match P.underlying t, mapOf h x, i with
 | some (.map kt e), some es, .v (.one key) =>
  match keyOk (P.underlying kt) key, findE key es 0 with
  | true, some (some (_, v)) => some (if ok then .tup [v, .one (.b true)] else .v v)
  | true, some none => match zeroT P e with
    | some z => some (if ok then .tup [z, .one (.b false)] else .v z)
    | none => none
  | _, _ => none
 | _, _, _ => none
def evMapUpdate (h : Hp) (t : TypeId) (x i v : AV) : Option (List U) :=
 match P.underlying t, x, i, v with
 | some (.map kt _), .v (.one (.m k)), .v (.one key), .v w =>
  match keyOk (P.underlying kt) key, h.get k with
  | true, some (.map es cl) => match findE key es 0 with
    | some none => some [.put k (.map (es ++ [(key, w, cl)]) (cl + 1))]
    | some (some (i, _)) => match es[i]? with
      | some e => some [.put k (.map (es.set i (key, w, e.2.2)) cl)]
      | none => none
    | none => none
  | _, _ => none
 | _, _, _, _ => none
def zeros (z : List A1) (n : Nat) : List A1 := (List.replicate n z).flatten
def evMakeSlice (h : Hp) (t : TypeId) (l c : AV) : Option (AV × List U) :=
 match elemT P t, intOf l, intOf c with
 | some e, some a, some b =>
  match zeroT P e, sizeT P e, bytesT P e with
  | some z, some n, some y => if 0 ≤ a ∧ a ≤ b ∧ b ≤ 1000000 ∧ y ≤ 1000000 ∧ z.cells.length = n ∧ h.n < 2 ^ D then some (.v (.one (.sl h.n 0 a.toNat (.ex b.toNat))), [.new (.cells e (zeros z.cells b.toNat))]) else none
  | _, _, _ => none
 | _, _, _ => none
def fillF (place : Nat → Option (Nat × Nat)) (cs : List A1) : List (Nat × A2) → Option (List A1)
 | [] => some cs
 | (i, v) :: r => match place i with
   | some (o, n) => if v.cells.length = n then match over cs o v.cells with
      | some cs' => fillF place cs' r
      | none => none
     else none
   | none => none
def asV2 : AV → Option A2
 | .v x => some x
 | _ => none
def evBuild (t : TypeId) (ps : List (Nat × AV)) : Option AV :=
 match zeroT P t, P.underlying t, allSome (fun p => (asV2 p.2).map fun x => (p.1, x)) ps with
 | some z, some (.struct fs), some qs => match fs.toList.all fun f => (sizeT P f.type).isSome with
   | true => (fillF (fun i => (fs[i]?).bind fun f => (sizeT P f.type).map fun n => (f.offset, n)) z.cells qs).map fun l => .v (.agg l)
   | false => none
 | some z, some (.array _ e), some qs => match sizeT P e with
   | some n => (fillF (fun i => some (i * n, n)) z.cells qs).map fun l => .v (.agg l)
   | none => none
 | _, _, _ => none
def evBuildSlice (h : Hp) (t : TypeId) (n : Nat) (ps : List (Nat × AV)) : Option (AV × List U) :=
 match elemT P t, allSome (fun p => (asV2 p.2).map fun x => (p.1, x)) ps with
 | some e, some qs => match sizeT P e, zeroT P e with
   | some z, some zz => if zz.cells.length = z ∧ n * z ≤ 1000000 ∧ h.n < 2 ^ D then
      match fillF (fun i => some (i * z, z)) (zeros zz.cells n) qs with
      | some l => some (.v (.one (.sl h.n 0 n (.ex n))), [.new (.cells e l)])
      | none => none
     else none
   | _, _ => none
 | _, _ => none
def evNew (h : Hp) (t : TypeId) (x : A2) : Option (AV × List U) := if h.n < 2 ^ D then some (.v (.one (.p h.n 0)), [.new (.cells t x.cells)]) else none
def bitsI (f : Nat → Nat → Nat) (k : IntKind) (x y : Int) : Int := k.wrap (f (BitVec.ofInt k.bits x).toNat (BitVec.ofInt k.bits y).toNat)
def lessL : List Nat → List Nat → Bool
 | _, [] => false
 | [], _ :: _ => true
 | a :: x, b :: y => a < b || (a == b && lessL x y)
def cmpI (op : BinOp) (x y : Int) : Option Bool :=
 match op with
 | .eql => some (x == y)
 | .neq => some (x != y)
 | .lss => some (decide (x < y))
 | .leq => some (decide (x ≤ y))
 | .gtr => some (decide (x > y))
 | .geq => some (decide (x ≥ y))
 | _ => none
/-- == at a type, of values that are no numbers and no texts. -/
def evEq (t : TypeId) (x y : A1) : Option Bool :=
 match P.underlying t, x, y with
 | some (.pointer _), .nilp, .nilp => some true
 | some (.pointer _), .p _ _, .nilp => some false
 | some (.slice _), .sl .., .nils => some false
 | some (.interface _), .ifc _ _, .nili => some false
 | _, _, _ => none
def evBin (op : BinOp) (t : TypeId) (x y : AV) : Option AV :=
 match x, y with
 | .v (.one (.i k a)), .v (.one (.i k' c)) =>
  match op with
  | .shl => if 0 ≤ c then some (.v (.one (.i k (k.wrap (a * 2 ^ (min c.toNat k.bits)))))) else none
  | .shr => if 0 ≤ c then some (.v (.one (.i k (a.fdiv (2 ^ (min c.toNat k.bits)))))) else none
  | _ => if k = k' then
    match op with
    | .add => some (.v (.one (.i k (k.wrap (a + c)))))
    | .sub => some (.v (.one (.i k (k.wrap (a - c)))))
    | .mul => some (.v (.one (.i k (k.wrap (a * c)))))
    | .quo => if c = 0 then none else some (.v (.one (.i k (k.wrap (a.tdiv c)))))
    | .rem => if c = 0 then none else some (.v (.one (.i k (a.tmod c))))
    | .and => some (.v (.one (.i k (bitsI (· &&& ·) k a c))))
    | .or => some (.v (.one (.i k (bitsI (· ||| ·) k a c))))
    | .xor => some (.v (.one (.i k (bitsI (· ^^^ ·) k a c))))
    | op => (cmpI op a c).map fun r => .v (.one (.b r))
   else none
 | .v (.one (.s a)), .v (.one (.s c)) =>
  match op with
  | .add => if a.length + c.length ≤ 1000000 then some (.v (.one (.s (a ++ c)))) else none
  | .eql => some (.v (.one (.b (a == c))))
  | .neq => some (.v (.one (.b (!(a == c)))))
  | _ => none
 | .v (.one a), .v (.one c) =>
  match op, evEq P t a c with
  | .eql, some r => some (.v (.one (.b r)))
  | .neq, some r => some (.v (.one (.b (!r))))
  | _, _ => none
 | _, _ => none
def evUn (op : UnOp) (x : AV) : Option AV :=
 match op, x with
 | .not, .v (.one (.b b)) => some (.v (.one (.b (!b))))
 | .xor, .v (.one (.i k n)) => some (.v (.one (.i k (bitsI (· ^^^ ·) k (if k.signed then -1 else k.max) n))))
 | _, _ => none
def u8s : List A1 → Option (List Nat)
 | [] => some []
 | .i .u8 (.ofNat n) :: l => bif Nat.blt n 256 then (u8s l).map fun m => n :: m else none
 | _ => none
def evConvP (src dst : TypeId) (x : AV) : Option AV :=
 match P.underlying src, P.underlying dst, x with
 | some _, some (.int k), .v (.one (.i _ n)) => some (.v (.one (.i k (k.wrap n))))
 | _, _, _ => none
def evConvM (h : Hp) (src dst : TypeId) (x : AV) : Option (AV × List U) :=
 match P.underlying src, P.underlying dst, x with
 | some .string, some (.slice e), .v (.one (.s l)) =>
  match P.underlying e with
  | some (.int .u8) => if h.n < 2 ^ D ∧ l.length ≤ 1000000 then some (.v (.one (.sl h.n 0 l.length (.un 0))), [.new (.row e 1 (l.map fun (c : Nat) => .i .u8 (c : Int)))]) else none
  | _ => none
 | some (.slice _), some (.slice e), .v (.one (.sl k o n c)) => if src = dst then match P.underlying e, h.get k with
   | some (.int .u8), some q => match rowOf q with
     | some _ => some (x, [.put k q])
     | none => none
   | _, _ => none
  else none
 | some (.slice e), some .string, .v (.one (.sl k o n c)) =>
  match P.underlying e, cellsIn h 1 x with
  | some (.int .u8), some cs => (u8s cs).map fun l => (.v (.one (.s l)), [])
  | _, _ => none
 | _, _, _ => none
def evRange (h : Hp) (t : TypeId) (x : AV) : Option (AV × List U) :=
 if h.n < 2 ^ D then
 match P.underlying t, x with
 | some .string, .v (.one (.s l)) => some (.v (.one (.p h.n 0)), [.new (.siter l 0)])
 | some (.map _ _), .v (.one (.m k)) => match h.get k with
   | some (.map _ cl) => some (.v (.one (.p h.n 0)), [.new (.iter k cl [] cl)])
   | _ => none
 | _, _ => none
 else none
def evNext (h : Hp) (x : AV) (isS : Bool) : Option (AV × List U) :=
 match x, isS with
 | .v (.one (.p k 0)), true => match h.get k with
   | some (.siter s pos) => match s[pos]? with
     | some c => if c < 128 then some (.tup [.one (.b true), .one (.i .i64 pos), .one (.i .i32 c)], [.put k (.siter s (pos + 1))]) else none
     | none => some (.tup [.one (.b false)], [])
   | _ => none
 | .v (.one (.p k 0)), false => match h.get k with
   | some (.iter m since seen last) => match h.get m with
     | some (.map es cl) =>
       let left := es.filter fun e => !seen.contains e.2.2
       let old := left.filter fun e => decide (e.2.2 < since)
       let new := left.filter fun e => decide (e.2.2 ≥ since)
       if !seen.isEmpty && !es.isEmpty && es.all (fun e => decide (e.2.2 ≥ last)) then none else
       match old, new with
       | [], [] => some (.tup [.one (.b false)], [])
       | [e], [] => some (.tup [.one (.b true), .one e.1, e.2.1], [.put k (.iter m since (seen ++ [e.2.2]) cl)])
       | _, _ => none
     | _ => none
   | _ => none
 | _, _ => none
def evEntry (h : Hp) (x : AV) : Option AV :=
 match x with
 | .v (.one (.p k 0)) => match h.get k with
   | some (.iter m _ seen st) => match h.get m, seen.getLast? with
     | some (.map es cl), some b => if cl = st then (es.find? fun e => e.2.2 == b).map fun e => .tup [.one e.1, e.2.1] else none
     | _, _ => none
   | _ => none
 | _ => none
def evLenP (t : TypeId) (x : AV) : Option AV :=
 match P.underlying t, x with
 | some .string, .v (.one (.s l)) => some (.v (.one (.i .i64 l.length)))
 | some (.slice _), .v (.one (.s _)) => none
 | some (.slice _), y => (lenIn y).map fun n => .v (.one (.i .i64 n))
 | _, _ => none
def evLenM (h : Hp) (t : TypeId) (x : AV) : Option AV :=
 match P.underlying t, x with
 | some (.map _ _), y => (mapOf h y).map fun es => .v (.one (.i .i64 es.length))
 | _, _ => none
def evClear (h : Hp) (t : TypeId) (x : AV) : Option (List U) :=
 match P.underlying t, x with
 | some (.map _ _), .v (.one (.m k)) => match h.get k with
   | some (.map _ cl) => some [.put k (.map [] cl)]
   | _ => none
 | _, _ => none
def evDelete (h : Hp) (t : TypeId) (x k : AV) : Option (List U) :=
 match P.underlying t, x, k with
 | some (.map kt _), .v (.one (.m m)), .v (.one key) => match keyOk (P.underlying kt) key, h.get m with
   | true, some (.map es cl) => match findE key es 0 with
     | some none => some [.put m (.map es cl)]
     | some (some (i, _)) => some [.put m (.map (es.eraseIdx i) cl)]
     | none => none
   | _, _ => none
 | _, _, _ => none
def evField (t : TypeId) (x : AV) (f : Nat) : Option AV :=
 match fieldOff P t f, x with
 | some (o, ty), .v (.agg l) => match isAggT P ty, sizeT P ty with
   | some true, some n => (seg l o n).map fun m => .v (.agg m)
   | _, _ => none
 | _, _ => none
def evIndex (t : TypeId) (x i : AV) : Option AV :=
 match P.underlying t, x, intOf i with
 | some .string, .v (.one (.s l)), some j => if 0 ≤ j then (l[j.toNat]?).map fun c => .v (.one (.i .u8 c)) else none
 | some (.array n e), .v (.agg l), some j => if 0 ≤ j ∧ j < n then match isAggT P e, sizeT P e with
    | some false, some z => (l[j.toNat * z]?).map fun y => .v (.one y)
    | _, _ => none
   else none
 | _, _, _ => none
def foldMM (f : Int → Int → Int) : List AV → Option AV
 | .v (.one (.i k a)) :: r => go k a r
 | _ => none
  where go (k : IntKind) (a : Int) : List AV → Option AV
 | [] => some (.v (.one (.i k a)))
 | .v (.one (.i _ b)) :: r => go k (f a b) r
 | _ => none
def isIface (t : TypeId) : Option Bool := (P.underlying t).map fun d => match d with | .interface _ => true | _ => false
def evMakeIface (h : Hp) (t : TypeId) (x : AV) : Option (AV × List U) :=
 match isIface P t, x with
 | some false, .v w => if h.n < 2 ^ D then some (.v (.one (.ifc t h.n)), [.new (.ifc t w)]) else none
 | _, _ => none
def evAssert (h : Hp) (x : AV) (want : TypeId) (ok : Bool) : Option AV :=
 match isIface P want, x with
 | some false, .v (.one (.ifc t k)) => if t = want then match h.get k with
    | some (.ifc _ w) => some (if ok then .tup [w, .one (.b true)] else .v w)
    | _ => none
   else if ok then (zeroT P want).map fun z => .tup [z, .one (.b false)] else none
 | some false, .v (.one .nili) => if ok then (zeroT P want).map fun z => .tup [z, .one (.b false)] else none
 | _, _ => none
def byteL (h : Hp) (x : AV) : Option (List Nat) := match x with
 | .v (.one (.s l)) => some l
 | .v (.one .nils) => some []
 | .v (.one (.stl ..)) => some []
 | _ => (cellsIn h 1 x).bind u8s
def idxB (c : Nat) : List Nat → Nat → Int
 | [], _ => -1
 | a :: l, i => if a = c then (i : Int) else idxB c l (i + 1)
def cntB (c : Nat) : List Nat → Nat
 | [] => 0
 | a :: l => (if a = c then 1 else 0) + cntB c l
/-- A number, worked out before it goes on. -/
def fN {β : Type} (n : Nat) (k : Nat → β) : β := match n with
 | 0 => k 0
 | Nat.succ m => k (Nat.succ m)
def cBit (c : Nat) : Nat := bif Nat.beq (Nat.mod c 2) 1 then Nat.xor (Nat.div c 2) 2197175160 else Nat.div c 2
def cBits : Nat → Nat → Nat
 | 0, c => c
 | n + 1, c => fN (cBit c) fun c => cBits n c
/-- The sum of bytes, before its last turn. -/
def cBytes : List Nat → Nat → Nat
 | [], c => c
 | b :: l, c => fN (cBits 8 (Nat.xor c b)) fun c => cBytes l c
def byteExt (kind c : Nat) (l : List Nat) : Option AV := if kind = 1 then some (.v (.one (.i .i64 (idxB c l 0)))) else if kind = 2 then some (.v (.one (.i .i64 (cntB c l)))) else none
/-- Functions that are known by what they do: 1: the first place of a byte, 2: how many, 3: the sum of bytes. -/
def evExt (kind : Nat) (h : Hp) (xs : List AV) : Option AV := match xs with
 | [x, .v (.one (.i .u8 (.ofNat c)))] => if c < 256 then match byteL h x with
   | some l => byteExt kind c l
   | none => none
  else none
 | [.v (.one (.i .u32 (.ofNat c))), .v (.one (.sl k o n cp))] => if kind = 3 ∧ c < 4294967296 ∧ n ≤ 1000000 then match byteL h (.v (.one (.sl k o n cp))) with
   | some l => some (.v (.one (.i .u32 (Nat.xor 4294967295 (cBytes l (Nat.xor 4294967295 c)) : Nat))))
   | none => none
  else none
 | _ => none
/-- What reads no memory and turns none. -/
def evPure (A : Fr) (o : Oper) : Option AV :=
 match o.op with
 | .move x | .assign x => evA A x
 | .pick c x y => match evA A c with
   | some (.v (.one (.b true))) => evA A x
   | some (.v (.one (.b false))) => evA A y
   | _ => none
 | .build t ps => match allSome (fun p => (evA A p.2).map fun v => (p.1, v)) ps.toList with
   | some qs => evBuild P t qs
   | none => none
 | .nilCheck x => match evA A x with
   | some (.v (.one (.p k q))) => some (.v (.one (.p k q)))
   | _ => none
 | .binOp op t x y _ => (evA A x).bind fun a => (evA A y).bind fun b => match a, b with
   | .v (.one .nili), .v (.one .nili) => if Region.isConst x || Region.isConst y then match op, P.underlying t with
      | .eql, some (.interface _) => some (.v (.one (.b true)))
      | .neq, some (.interface _) => some (.v (.one (.b false)))
      | _, _ => none
     else none
   | _, _ => evBin P op t a b
 | .unOp op _ x => (evA A x).bind fun a => evUn op a
 | .convert s d x => (evA A x).bind fun a => evConvP P s d a
 | .slice t x lo hi mx =>
   match evA A x, lo.map (evA A), hi.map (evA A), mx.map (evA A) with
   | some v, some none, _, _ | some v, _, some none, _ | some v, _, _, some none => none
   | some v, a, b, c => evSlice P t v a.join b.join c.join
   | none, _, _, _ => none
 | .fieldAddr s x f => match evA A x, fieldOff P s f with
   | some (.v (.one (.p k q))), some (d, ty) => match sizeT P ty with
      | some (Nat.succ _) => some (.v (.one (.p k (q + d))))
      | _ => none
   | _, _ => none
 | .field t x f => (evA A x).bind fun v => evField P t v f
 | .indexAddr t x i => (evA A x).bind fun a => (evA A i).bind fun b => evIndexAddr P t a b
 | .index t x i => (evA A x).bind fun a => (evA A i).bind fun b => evIndex P t a b
 | .extract x i => match evA A x with
   | some (.tup l) => (l[i]?).map .v
   | _ => none
 | .call c => match c.callee, allSome (evA A) c.args.toList, c.argTypes.toList with
   | .builtin .len, some [x], t :: _ => evLenP P t x
   | .builtin .max, some xs, _ => foldMM (fun a b => if a < b then b else a) xs
   | .builtin .min, some xs, _ => foldMM (fun a b => if b < a then b else a) xs
   | _, _, _ => none
 | _ => none
/-- What reads memory and turns none: the value. -/
def evRead (A : Fr) (h : Hp) (o : Oper) : Option AV :=
 match o.op with
 | .load t x => (evA A x).bind fun v => evLoad P t v h
 | .lookup t x i ok => (evA A x).bind fun a => (evA A i).bind fun b => evLookup P h t a b ok
 | .entry x => (evA A x).bind fun a => evEntry h a
 | .typeAssert x _ want ok => (evA A x).bind fun a => evAssert P h a want ok
 | .call c => match c.callee, allSome (evA A) c.args.toList, c.argTypes.toList with
   | .builtin .len, some [x], t :: _ => evLenM P h t x
   | _, _, _ => none
 | _ => none
/-- What turns memory. -/
def evEff (A : Fr) (h : Hp) (o : Oper) : Option (AV × List U) :=
 match o.op with
 | .alloc e => match zeroT P e with
   | some z => if sizeT P e = some z.cells.length then evNew h e z else none
   | none => none
 | .box e x => match evA A x with
   | some (.v v) => evNew h e v
   | _ => none
 | .buildSlice t n ps => match allSome (fun p => (evA A p.2).map fun v => (p.1, v)) ps.toList with
   | some qs => evBuildSlice P h t n qs
   | none => none
 | .store t x y => (evA A x).bind fun a => (evA A y).bind fun b => (evStore P t a b h).map fun us => (undefA, us)
 | .convert s d x => (evA A x).bind fun a => evConvM P h s d a
 | .makeFunc (.func f) first caps => if first.size = 0 ∧ h.n < 2 ^ D then
     match allSome (evA A) caps.toList with
     | some vs => (allSome asV2 vs).map fun ws => (.v (.one (.clo h.n)), [.new (.clo f ws)])
     | none => none
    else none
 | .makeMap t none => if h.n < 2 ^ D then some (.v (.one (.m h.n)), [.new (.map [] 0)]) else none
 | .makeSlice t l c => (evA A l).bind fun a => (evA A c).bind fun b => evMakeSlice P h t a b
 | .makeInterface t x => (evA A x).bind fun a => evMakeIface P h t a
 | .mapUpdate T m k v | .insert T m k v => (evA A m).bind fun a => (evA A k).bind fun b => (evA A v).bind fun c => (evMapUpdate P h T a b c).map fun us => (undefA, us)
 | .range t x => (evA A x).bind fun a => evRange P h t a
 | .next x s => (evA A x).bind fun a => evNext h a s
 | .call c => match c.callee, allSome (evA A) c.args.toList, c.argTypes.toList with
   | .builtin .append, some [s, x], [t, u] => evAppend P h t u s x
   | .builtin .copy, some [d, x], t :: _ => evCopy P h t d x
   | .builtin .clear, some [x], t :: _ => (evClear P h t x).map fun us => (.tup [], us)
   | .builtin .delete, some [x, k], t :: _ => (evDelete P h t x k).map fun us => (.tup [], us)
   | _, _, _ => none
 | _ => none
/-- A call of a function of the program's: which, of what. -/
def evEnter (A : Fr) (h : Hp) (o : Oper) : Option (Nat × List AV) :=
 match o.op with
 | .call c => match c.callee, allSome (evA A) c.args.toList with
   | .value f, some xs => match evA A f with
     | some (.v (.one (.f g))) => some (g, xs)
     | some (.v (.one (.clo k))) => match h.get k with
       | some (.clo g caps) => some (g, xs ++ caps.map .v)
       | _ => none
     | _ => none
   | _, _ => none
 | _ => none
/-- The cells that a load reads: whether the value is a struct's or a row's; block, offset, how many. -/
def evSpot (A : Fr) (o : Oper) : Option (Bool × Nat × Nat × Nat) :=
 match o.op with
 | .load t x => match evA A x, isAggT P t, sizeT P t with
   | some (.v (.one (.p k q))), some false, _ => some (false, k, q, 1)
   | some (.v (.one (.p k q))), some true, some n => some (true, k, q, n)
   | _, _, _ => none
 | _ => none
end
end Go.Ev
namespace Go.Ev
open Go Go.RowKit
inductive X where
 | normal
 | exit (id : Nat)
 | ret
/-- A frame (its temporaries, how many) and the memory. -/
structure St where
 A : Fr
 n : Nat
 h : Hp
 deriving DecidableEq
def wantedA (ops : Array Oper) (A : Fr) (o : Oper) : Option Bool :=
 match o.guard with
 | none => some true
 | some (j, want) => match (ops[j]?).bind (·.dst) with
   | some d => match evA A (.tmp d) with
     | some (.v (.one (.b b))) => some (b == want)
     | some (.tup _) => some false
     | _ => none
   | none => none
def resultsA (P : Program) (fn : Func) (A : Fr) (h : Hp) : Option AV :=
 match allSome (fun r => match r with
   | .tmp t => evA A (.tmp t)
   | .cell a t => (evA A (.tmp a)).bind fun x => evLoad P t x h) fn.results.toList with
 | some [v] => some v
 | some vs => (allSome asV2 vs).map .tup
 | none => none

/-! ### Forced values: each 'f x k' is 'k x' -/
section
variable {β : Type}
def fI (n : Int) (k : Int → β) : β := match n with
 | .ofNat m => fN m fun m => k (.ofNat m)
 | .negSucc m => fN m fun m => k (.negSucc m)
def fB (b : Bool) (k : Bool → β) : β := match b with
 | true => k true
 | false => k false
def fL {α : Type} (f : α → (α → β) → β) : List α → (List α → β) → β
 | [], k => k []
 | a :: l, k => f a fun a => fL f l fun l => k (a :: l)
def fK (x : IntKind) (k : IntKind → β) : β := match x with
 | .i8 => k .i8 | .i16 => k .i16 | .i32 => k .i32 | .i64 => k .i64 | .u8 => k .u8 | .u16 => k .u16 | .u32 => k .u32 | .u64 => k .u64
def fC (c : CapE) (k : CapE → β) : β := match c with
 | .ex n => fN n fun n => k (.ex n)
 | .un n => fN n fun n => k (.un n)
def f1 (x : A1) (k : A1 → β) : β := match x with
 | .b x => fB x fun x => k (.b x)
 | .i q n => fK q fun q => fI n fun n => k (.i q n)
 | .s l => fL fN l fun l => k (.s l)
 | .nilp => k .nilp
 | .p a o => fN a fun a => fN o fun o => k (.p a o)
 | .nils => k .nils
 | .sl a o n c => fN a fun a => fN o fun o => fN n fun n => fC c fun c => k (.sl a o n c)
 | .stl a o z b j => fN a fun a => fN o fun o => fN z fun z => fN b fun b => fN j fun j => k (.stl a o z b j)
 | .nilm => k .nilm
 | .m a => fN a fun a => k (.m a)
 | .nili => k .nili
 | .nilf => k .nilf
 | .f a => fN a fun a => k (.f a)
 | .clo a => fN a fun a => k (.clo a)
 | .ifc t a => fN t fun t => fN a fun a => k (.ifc t a)
 | .y a => fN a fun a => k (.y a)
 | .c a => fN a fun a => k (.c a)
def f2 (x : A2) (k : A2 → β) : β := match x with
 | .one x => f1 x fun x => k (.one x)
 | .agg l => fL f1 l fun l => k (.agg l)
def fV (x : AV) (k : AV → β) : β := match x with
 | .v x => f2 x fun x => k (.v x)
 | .tup l => fL f2 l fun l => k (.tup l)
def fE (e : A1 × A2 × Nat) (k : A1 × A2 × Nat → β) : β := match e with
 | (a, b, c) => f1 a fun a => f2 b fun b => fN c fun c => k (a, b, c)
def fO (o : AO) (k : AO → β) : β := match o with
 | .cells t l => fN t fun t => fL f1 l fun l => k (.cells t l)
 | .row t z l => fN t fun t => fN z fun z => fL f1 l fun l => k (.row t z l)
 | .map es c => fL fE es fun es => fN c fun c => k (.map es c)
 | .iter a b l c => fN a fun a => fN b fun b => fL fN l fun l => fN c fun c => k (.iter a b l c)
 | .siter s p => fL fN s fun s => fN p fun p => k (.siter s p)
 | .clo f l => fN f fun f => fL f2 l fun l => k (.clo f l)
 | .ifc t x => fN t fun t => f2 x fun x => k (.ifc t x)
 | .y a => fN a fun a => k (.y a)
 | .mapx es => fL (fun (e : A1 × A2) k => f1 e.1 fun a => f2 e.2 fun b => k (a, b)) es fun es => k (.mapx es)
def fTr {α : Type} : Nat → Tr α → Nat → Option α → (Tr α → β) → β
 | 0, _, _, o, k => k (.lf o)
 | d + 1, .nd l r, n, o, k => fN (n / 2) fun m => bif Nat.beq (n % 2) 0 then fTr d l m o fun l => k (.nd l r) else fTr d r m o fun r => k (.nd l r)
 | d + 1, .lf _, n, o, k => fN (n / 2) fun m => bif Nat.beq (n % 2) 0 then fTr d (.lf none) m o fun l => k (.nd l (.lf none)) else fTr d (.lf none) m o fun r => k (.nd (.lf none) r)
def fU (h : Hp) : List U → (Hp → β) → β
 | [], k => k h
 | .put a o :: r, k => match h with
   | ⟨t, n⟩ => fN a fun a => fO o fun o => fTr D t a (some o) fun t => fU ⟨t, n⟩ r k
 | .new o :: r, k => match h with
   | ⟨t, n⟩ => fO o fun o => fTr D t n (some o) fun t => fU ⟨t, Nat.succ n⟩ r k
 | .del a :: r, k => match h with
   | ⟨t, n⟩ => fN a fun a => fTr D t a none fun t => fU ⟨t, n⟩ r k
end
/-- The first temporaries. -/
def fArgs {β : Type} : List AV → Nat → Fr → (Fr → β) → β
 | [], _, A, k => k A
 | v :: l, i, A, k => fV v fun v => fTr DT A i (some v) fun A => fArgs l (Nat.succ i) A k
def putF {β : Type} (s : St) (d : Option Tmp) (v : AV) (us : List U) (k : St → Option β) : Option β :=
 match s with
 | ⟨A, n, h⟩ => match d with
   | some d => bif Nat.blt d n then fV v fun v => fTr DT A d (some v) fun A => fU h us fun h => k ⟨A, n, h⟩ else none
   | none => fU h us fun h => k ⟨A, n, h⟩
section
abbrev CallT := Nat → List AV → Hp → Option (AV × Hp)
/-- What is known besides: of calls; of operations on letters; of those that read no memory; of loops (by the function and the way to their code). -/
structure Hk where
 ex : CallT
 ru : Fr → Hp → Oper → Option (AV × List U)
 rp : Fr → Oper → Option AV
 lo : Nat → List Bool → St → Option (X × St)
variable (P : Program) (K : Hk)
/-- One operation, its call made. -/
def doOp (call : CallT) (ops : Array Oper) (s : St) (o : Oper) : Option St :=
 match s with
 | ⟨A, n, h⟩ =>
 match wantedA ops A o with
 | some true =>
  match evPure P A o with
  | some v => putF ⟨A, n, h⟩ o.dst v [] some
  | none => match evRead P A h o with
   | some v => putF ⟨A, n, h⟩ o.dst v [] some
   | none => match evEff P A h o with
    | some (v, us) => putF ⟨A, n, h⟩ o.dst v us some
    | none => match evEnter A h o with
     | some (f, xs) => fN f fun f => match call f xs h with
       | some (v, h') => putF ⟨A, n, h'⟩ o.dst v [] some
       | none => none
     | none => match K.ru A h o with
       | some (v, us) => putF ⟨A, n, h⟩ o.dst v us some
       | none => none
 | some false => putF ⟨A, n, h⟩ o.dst undefA [] some
 | none => none
def doOps (call : CallT) (ops : Array Oper) : List Oper → St → Option St
 | [], s => some s
 | o :: l, s => match doOp P K call ops s o with
   | some s' => doOps call ops l s'
   | none => none
/-! ### A region whose order is drawn: an order that stands for all -/
def takeable (P : Program) (o : Oper) : Bool :=
 match o.op with
 | .move _ | .assign _ | .pick .. | .build .. | .nilCheck _ | .binOp .. | .unOp .. | .slice .. | .fieldAddr .. | .field .. | .indexAddr .. | .index .. | .extract .. | .load .. => true
 | .convert s d _ => match P.underlying s, P.underlying d with
   | some (.slice _), _ | _, some (.slice _) => false
   | _, _ => true
 | .call c => match c.callee with
   | .builtin .len | .builtin .max | .builtin .min => true
   | _ => false
 | _ => false
/-- An order: what is taken ahead of the others; or what may come up, each with what is behind it. -/
inductive Sch where
 | done
 | take (i : Nat) (t : Sch)
 | one (i : Nat) (t : Sch)
 | two (i j : Nat) (t u : Sch)
def sched (ops : Array Oper) : Nat → Array Bool → Sch
 | 0, _ => .done
 | n + 1, listed => match Region.ready .any ops listed with
   | [] => .done
   | [i] => .one i (sched ops n (listed.setIfInBounds i true))
   | rs => match rs.find? fun i => match ops[i]? with
      | some o => takeable P o && Region.free .any ops listed i
      | none => false with
     | some i => .take i (sched ops n (listed.setIfInBounds i true))
     | none => match rs with
       | [i, j] => .two i j (sched ops n (listed.setIfInBounds i true)) (sched ops n (listed.setIfInBounds j true))
       | _ => .done
def schedOk (ops : Array Oper) : Nat → Sch → Array Bool → Bool
 | _, .done, listed => (Region.ready .any ops listed).isEmpty
 | n + 1, .take i l, listed => (Region.ready .any ops listed).contains i && Region.free .any ops listed i && schedOk ops n l (listed.setIfInBounds i true)
 | n + 1, .one i l, listed => (Region.ready .any ops listed == [i]) && schedOk ops n l (listed.setIfInBounds i true)
 | n + 1, .two i j l m, listed => (Region.ready .any ops listed == [i, j]) && schedOk ops n l (listed.setIfInBounds i true) && schedOk ops n m (listed.setIfInBounds j true)
 | 0, _, _ => false
def cellsAt (h : Hp) (f : Nat × Nat × Nat) : Option (List A1) := ((h.get f.1).bind rowOf).bind fun l => seg l f.2.1 f.2.2
/-- Does j wait for i itself? -/
def waitsFor (ops : Array Oper) (j i : Nat) : Bool :=
 match ops[j]? with
 | some o => o.after.any fun e => Region.binds .any e && e.on == i
 | none => false

/-- The place of number i among the variables that the region makes. -/
def allocNo (ops : Array Oper) (i : Nat) : Nat := ((ops.toList.take i).filter fun o => match o.op with | .alloc _ => true | _ => false).length
/-- One operation of a drawn region: a variable that is made has its name from the region's start (n0). -/
def doOpD (call : CallT) (ops : Array Oper) (n0 i : Nat) (s : St) (o : Oper) : Option St :=
 match o.op with
 | .alloc e => match s with
   | ⟨A, n, h⟩ => match wantedA ops A o, zeroT P e with
     | some true, some z => if sizeT P e = some z.cells.length then fN (n0 + allocNo ops i) fun k => putF ⟨A, n, h⟩ o.dst (.v (.one (.p k 0))) [.put k (.cells e z.cells)] some else none
     | _, _ => none
 | _ => doOp P K call ops s o
def spotVal : Bool → List A1 → Option AV
 | true, cs => some (.v (.agg cs))
 | false, [y] => some (.v (.one y))
 | false, _ => none
/-- A cell that was read ahead: by whom; where; what. -/
abbrev FactA := Nat × (Nat × Nat × Nat) × List A1
def runSch (call : CallT) (ops : Array Oper) (n0 : Nat) : Sch → St → Option (St × List FactA × List (Nat × Hp))
 | .done, s => some (s, [], [])
 | .take i l, s => match ops[i]? with
   | some o => match s with
    | ⟨A, n, h⟩ => match wantedA ops A o with
     | some true => match evPure P A o with
       | some v => putF ⟨A, n, h⟩ o.dst v [] (runSch call ops n0 l)
       | none => match evSpot P A o with
         | some (g, f) => match cellsAt h f with
            | some cs => match spotVal g cs with
              | some v => match putF ⟨A, n, h⟩ o.dst v [] (runSch call ops n0 l) with
                | some (s', fs, hs) => some (s', (i, f, cs) :: fs, hs)
                | none => none
              | none => none
            | none => none
         | none => match K.rp A o with
            | some v => putF ⟨A, n, h⟩ o.dst v [] (runSch call ops n0 l)
            | none => none
     | some false => putF ⟨A, n, h⟩ o.dst undefA [] (runSch call ops n0 l)
     | none => none
   | none => none
 | .one i l, s => match ops[i]? with
   | some o => match doOpD P K call ops n0 i s o with
     | some s1 => match runSch call ops n0 l s1 with
       | some (s', fs, hs) => some (s', fs, (i, s1.h) :: hs)
       | none => none
     | none => none
   | none => none
 | .two i j l m, s => match ops[i]?, ops[j]? with
   | some o, some q => match doOpD P K call ops n0 i s o, doOpD P K call ops n0 j s q with
     | some s1, some s2 => match runSch call ops n0 l s1, runSch call ops n0 m s2 with
       | some (s', fs, hs), some (s2', fs2, hs2) => if s' = s2' then some (s', fs ++ fs2, (i, s1.h) :: (j, s2.h) :: (hs ++ hs2)) else none
       | _, _ => none
     | _, _ => none
   | _, _ => none
/-- A value that is told of wholly. -/
def det : A1 → Bool
 | .c 0 => false
 | _ => true
def sameCells : List A1 → List A1 → Bool
 | [], [] => true
 | a :: l, b :: m => if a = b then (bif det a then sameCells l m else false) else false
 | _, _ => false
/-- What was read ahead lies so at the region's start, and behind all that comes up without waiting for the reader. -/
def factsOk (ops : Array Oper) (n0 : Nat) (h0 : Hp) (hs : List (Nat × Hp)) (f : FactA) : Bool :=
 match f with
 | (i, p, cs) => match cellsAt h0 p with
  | some cs0 => sameCells cs0 cs && Nat.blt p.1 n0 && hs.all fun h => waitsFor ops h.1 i || match cellsAt h.2 p with
    | some cs' => sameCells cs0 cs'
    | none => false
  | none => false
def doDrawn (call : CallT) (ops : Array Oper) (s : St) : Option St :=
 let l := sched P ops ops.size (Array.replicate ops.size false)
 match schedOk ops ops.size l (Array.replicate ops.size false) && Region.noSelect ops with
 | true => match s with
  | ⟨A, n, h0⟩ => fN (h0.n + allocNo ops ops.size) fun m => match h0 with
   | ⟨t, n0⟩ => if m ≤ 2 ^ D then match runSch P K call ops n0 l ⟨A, n, ⟨t, m⟩⟩ with
    | some (s', fs, hs) => match fs.all (factsOk ops n0 ⟨t, m⟩ hs) with
      | true => some s'
      | false => none
    | none => none
   else none
 | false => none
/-- The parts of code; the part at the end of a way (its last step first). -/
def child : Bool → Code → Option Code
 | false, .seq a _ => some a
 | true, .seq _ b => some b
 | false, .cond _ a _ => some a
 | true, .cond _ _ b => some b
 | false, .block _ b => some b
 | false, .loop b => some b
 | _, _ => none
def codeR : List Bool → Code → Option Code
 | [], b => some b
 | d :: p, b => (codeR p b).bind (child d)
abbrev EvT := Nat → List Bool → Code → St → Option (X × St)
/-- A call: what is known of it; else by the function's body. -/
def callA (ev : EvT) : CallT := fun f xs h =>
 match K.ex f xs h with
 | some r => some r
 | none => match P.funcs[f]? with
   | some fn => match fn.body with
     | some b => if Nat.max fn.ntmps xs.length ≤ 256 then fArgs xs 0 (.lf none) fun A => match ev f [] b ⟨A, Nat.max fn.ntmps xs.length, h⟩ with
       | some (.normal, s') | some (.ret, s') => match s' with
          | ⟨A, _, h⟩ => (resultsA P fn A h).map fun v => (v, h)
       | _ => none
      else none
     | none => none
   | none => none
def evCode : Nat → EvT
 | 0, _, _, _, _ => none
 | n + 1, f, p, c, s =>
  match c with
  | .skip => some (.normal, s)
  | .label _ => some (.normal, s)
  | .region _ ops false => match doOps P K (callA P K (evCode n)) ops ops.toList s with
    | some s' => some (.normal, s')
    | none => none
  | .region _ ops true => match doDrawn P K (callA P K (evCode n)) ops s with
    | some s' => some (.normal, s')
    | none => none
  | .seq a b => match evCode n f (false :: p) a s with
    | some (.normal, s') => evCode n f (true :: p) b s'
    | r => r
  | .cond x a b => match evA s.A x with
    | some (.v (.one (.b true))) => evCode n f (false :: p) a s
    | some (.v (.one (.b false))) => evCode n f (true :: p) b s
    | _ => none
  | .block id b => match K.lo f p s with
    | some r => some r
    | none => match evCode n f (false :: p) b s with
      | some (.exit j, s') => if j = id then some (.normal, s') else some (.exit j, s')
      | r => r
  | .loop b => match evCode n f (false :: p) b s with
    | some (.normal, s') => evCode n f p (.loop b) s'
    | r => r
  | .exit id => some (.exit id, s)
  | .ret => some (.ret, s)
  | _ => none
end
end Go.Ev
