/- A reckoner for closed runs: values and memory by names; what they stand for. -/
import Derived.RowKit
import Derived.WalkKit
import Derived.Calls
import Derived.Below
import Derived.Laws.Strings
import Derived.Great.FillDense
set_option linter.unusedVariables false
set_option linter.unusedSimpArgs false
set_option linter.unusedSectionVars false
namespace Go.Ev
open Go

/-- A capacity: known, or what is left of the block's own behind j elements. -/
inductive CapE where
 | ex (c : Nat)
 | un (j : Nat)
 deriving DecidableEq
/-- A value of one cell; blocks by names. -/
inductive A1 where
 | b (x : Bool)
 | i (k : IntKind) (n : Int)
 | s (x : List Nat)
 | nilp
 | p (k o : Nat)
 | nils
 | sl (k o n : Nat) (c : CapE)
 | stl (k o z a j : Nat)
 | nilm
 | m (k : Nat)
 | nili
 | nilf
 | f (fn : Nat)
 | clo (k : Nat)
 | ifc (t k : Nat)
 | y (i : Nat)
 | c (i : Nat)
 deriving DecidableEq
inductive A2 where
 | one (x : A1)
 | agg (l : List A1)
 deriving DecidableEq
inductive AV where
 | v (x : A2)
 | tup (l : List A2)
 deriving DecidableEq
inductive AO where
 | cells (t : Nat) (l : List A1)
 | row (t z : Nat) (l : List A1)
 | map (es : List (A1 × A2 × Nat)) (clock : Nat)
 | iter (k : Nat) (since : Nat) (seen : List Nat) (last : Nat)
 | siter (s : List Nat) (pos : Nat)
 | clo (fn : Nat) (caps : List A2)
 | ifc (t : Nat) (x : A2)
 | y (i : Nat)
 | mapx (es : List (A1 × A2))
 deriving DecidableEq
/-- What the letters stand for: values, and what blocks hold. -/
class Sy where
 v : Nat → A1
 o : Nat → AO
 c : Nat → Value
 one : ∀ i, (c i).oneCell' = true
 vb : ∀ i j, v i ≠ .y j
 vc : ∀ i, v i ≠ .c 0
 ob : ∀ i j, o i ≠ .y j
 oc : ∀ i f l, o i ≠ .clo f l
 oi : ∀ i t x, o i ≠ .ifc t x
def A1.den [Sy] : A1 → A1
 | .y q => Sy.v q
 | x => x
def AO.den [Sy] : AO → AO
 | .y q => Sy.o q
 | x => x
/-- What a name stands for. -/
inductive Ent where
 | blk (b c : Nat)
 | clo (v : Value)
 | none
def bytes (l : List Nat) : ByteArray := ⟨(l.map UInt8.ofNat).toArray⟩
def capOf (c : Nat) : CapE → Nat
 | .ex n => n
 | .un j => c - j
/-- A function value: with what it caught, or (65536 and more) with what comes first. -/
def isB (g : Nat) : Bool := Nat.ble 65536 g
def unB (g : Nat) : Nat := g - 65536
def mkB (g : Nat) : Nat := g + 65536
theorem isB_lo {g : Nat} (h : g < 65536) : isB g = false := by
 unfold isB
 cases hb : Nat.ble 65536 g with
 | false => rfl
 | true => have := Nat.le_of_ble_eq_true hb; omega
theorem isB_mk (g : Nat) : isB (mkB g) = true := Nat.ble_eq_true_of_le (Nat.le_add_left _ _)
theorem unB_mk (g : Nat) : unB (mkB g) = g := by unfold unB mkB; rw [Nat.add_sub_cancel]
def cloV (fn : Nat) (cs : Array Value) : Value := bif isB fn then .func (.func (unB fn)) cs #[] else .func (.func fn) #[] cs
/-- What a plain value stands for. -/
def V0 [Sy] (E : List Ent) : A1 → Value → Prop
 | .b x, v => v = .bool x
 | .i k n, v => v = .int k n
 | .s l, v => v = .string (bytes l) ∧ ∀ c ∈ l, c < 256
 | .nilp, v => v = .pointer none
 | .p k o, v => ∃ b c, E[k]? = some (.blk b c) ∧ v = .pointer (some ⟨b, o, none⟩)
 | .nils, v => v = .slice none 0 0
 | .sl k o n ce, v => ∃ b c, E[k]? = some (.blk b c) ∧ v = .slice (some ⟨b, o, none⟩) n (capOf c ce) ∧ n ≤ capOf c ce
 | .stl k o z a j, v => ∃ b c, E[k]? = some (.blk b c) ∧ v = .slice (some (if c - j = a then ⟨b, o, none⟩ else ⟨b, o + a * z, none⟩)) 0 (c - j - a)
 | .nilm, v => v = .map none
 | .m k, v => ∃ b c, E[k]? = some (.blk b c) ∧ v = .map (some b)
 | .nili, v => v = .nilIface
 | .nilf, v => v = .nilFunc
 | .f fn, v => v = .func (.func fn) #[] #[]
 | .clo k, v => E[k]? = some (.clo v) ∧ ∃ fn fs cs, v = .func (.func fn) fs cs
 | .ifc t k, v => E[k]? = some (.clo v) ∧ ∃ x, v = .iface t x
 | .y _, _ => False
 | .c 0, v => v.oneCell' = true
 | .c (i + 1), v => v = Sy.c i
/-- What a value stands for. -/
def V1 [Sy] (E : List Ent) (x : A1) (v : Value) : Prop := V0 E x.den v
/-- Two lists, element by element. -/
def All2 {α β : Type} (R : α → β → Prop) : List α → List β → Prop
 | [], [] => True
 | a :: as, b :: bs => R a b ∧ All2 R as bs
 | _, _ => False
def V2 [Sy] (E : List Ent) : A2 → Value → Prop
 | .one x, v => V1 E x v
 | .agg l, v => ∃ cs : List Value, All2 (V1 E) l cs ∧ v = .agg cs.toArray
def VV [Sy] (E : List Ent) : AV → Value → Prop
 | .v x, v => V2 E x v
 | .tup l, v => ∃ vs : List Value, All2 (V2 E) l vs ∧ v = .tuple vs.toArray

section
variable {α β : Type} {R R' : α → β → Prop}
theorem All2.length : ∀ {l : List α} {m : List β}, All2 R l m → l.length = m.length
 | [], [], _ => rfl
 | _ :: _, _ :: _, h => by simp [All2.length h.2]
theorem All2.imp (hr : ∀ a b, R a b → R' a b) : ∀ {l : List α} {m : List β}, All2 R l m → All2 R' l m
 | [], [], _ => trivial
 | _ :: _, _ :: _, h => ⟨hr _ _ h.1, All2.imp hr h.2⟩
theorem All2.get : ∀ {l : List α} {m : List β}, All2 R l m → ∀ (i : Nat) (a : α), l[i]? = some a → ∃ b, m[i]? = some b ∧ R a b
 | [], [], _, i, a, h => by simp at h
 | x :: l, y :: m, h, 0, a, ha => by
  simp only [List.getElem?_cons_zero, Option.some.injEq] at ha
  subst ha
  exact ⟨y, rfl, h.1⟩
 | x :: l, y :: m, h, i + 1, a, ha => by
  simp only [List.getElem?_cons_succ] at ha ⊢
  exact All2.get h.2 i a ha
theorem All2.set : ∀ {l : List α} {m : List β}, All2 R l m → ∀ (i : Nat) (a : α) (b : β), R a b → All2 R (l.set i a) (m.set i b)
 | [], [], _, _, _, _, _ => trivial
 | x :: l, y :: m, h, 0, a, b, hab => ⟨hab, h.2⟩
 | x :: l, y :: m, h, i + 1, a, b, hab => ⟨h.1, All2.set h.2 i a b hab⟩
theorem All2.append : ∀ {l : List α} {m : List β} {l' : List α} {m' : List β}, All2 R l m → All2 R l' m' → All2 R (l ++ l') (m ++ m')
 | [], [], _, _, _, h' => h'
 | _ :: _, _ :: _, _, _, h, h' => ⟨h.1, All2.append h.2 h'⟩
theorem All2.take : ∀ {l : List α} {m : List β}, All2 R l m → ∀ n, All2 R (l.take n) (m.take n)
 | [], [], _, n => by simp [All2]
 | _ :: _, _ :: _, _, 0 => trivial
 | _ :: _, _ :: _, h, n + 1 => ⟨h.1, All2.take h.2 n⟩
theorem All2.drop : ∀ {l : List α} {m : List β}, All2 R l m → ∀ n, All2 R (l.drop n) (m.drop n)
 | [], [], _, n => by simp [All2]
 | x :: l, y :: m, h, 0 => h
 | _ :: _, _ :: _, h, n + 1 => All2.drop h.2 n
theorem All2.replicate {a : α} {b : β} (h : R a b) : ∀ n, All2 R (List.replicate n a) (List.replicate n b)
 | 0 => trivial
 | n + 1 => ⟨h, All2.replicate h n⟩
theorem All2.eraseIdx : ∀ {l : List α} {m : List β}, All2 R l m → ∀ i, All2 R (l.eraseIdx i) (m.eraseIdx i)
 | [], [], _, i => by simp [All2]
 | _ :: _, _ :: _, h, 0 => h.2
 | x :: l, y :: m, h, i + 1 => ⟨h.1, All2.eraseIdx h.2 i⟩
theorem All2.map_ {γ δ : Type} {S : γ → δ → Prop} {f : γ → α} {g : δ → β} (hr : ∀ a b, S a b → R (f a) (g b)) : ∀ {l : List γ} {m : List δ}, All2 S l m → All2 R (l.map f) (m.map g)
 | [], [], _ => trivial
 | _ :: _, _ :: _, h => ⟨hr _ _ h.1, All2.map_ hr h.2⟩
theorem All2.mem : ∀ {l : List α} {m : List β}, All2 R l m → ∀ b ∈ m, ∃ a ∈ l, R a b
 | [], [], _, b, h => by simp at h
 | x :: l, y :: m, h, b, hb => by
  rcases List.mem_cons.1 hb with rfl | hb
  · exact ⟨x, List.mem_cons_self, h.1⟩
  · obtain ⟨a, ha, hr⟩ := All2.mem h.2 b hb
    exact ⟨a, List.mem_cons_of_mem _ ha, hr⟩
end
/-! ### More names -/
def Ext (E E' : List Ent) : Prop := E.length ≤ E'.length ∧ ∀ (k : Nat) (e : Ent), E[k]? = some e → e ≠ .none → E'[k]? = some e
theorem Ext.refl (E : List Ent) : Ext E E := ⟨Nat.le_refl _, fun _ _ h _ => h⟩
theorem Ext.trans {A B C : List Ent} (h : Ext A B) (k : Ext B C) : Ext A C := ⟨Nat.le_trans h.1 k.1, fun i e hi hn => k.2 i e (h.2 i e hi hn) hn⟩
theorem Ext.more (E t : List Ent) : Ext E (E ++ t) := ⟨by simp, fun k e hk _ => by rw [List.getElem?_append_left (List.getElem?_eq_some_iff.1 hk).1]; exact hk⟩
theorem Ext.one (E : List Ent) (e : Ent) : Ext E (E ++ [e]) := Ext.more E [e]
theorem Ext.fill (E : List Ent) (k : Nat) (e : Ent) (hk : E[k]? = some .none) : Ext E (E.set k e) := ⟨by simp, fun i f hi hn => by
 rw [List.getElem?_set]
 by_cases h : k = i
 · subst h
   rw [hk] at hi
   exact absurd (Option.some.inj hi).symm hn
 · rw [if_neg h]
   exact hi⟩
/-- All names of the one, and more. -/
def Pre (E E' : List Ent) : Prop := E.length ≤ E'.length ∧ ∀ k, k < E.length → E'[k]? = E[k]?
theorem Pre.refl (E : List Ent) : Pre E E := ⟨Nat.le_refl _, fun _ _ => rfl⟩
theorem Pre.trans {A B C : List Ent} (h : Pre A B) (k : Pre B C) : Pre A C := ⟨Nat.le_trans h.1 k.1, fun i hi => (k.2 i (Nat.lt_of_lt_of_le hi h.1)).trans (h.2 i hi)⟩
theorem Pre.more (E t : List Ent) : Pre E (E ++ t) := ⟨by simp, fun k hk => List.getElem?_append_left hk⟩
theorem Pre.one (E : List Ent) (e : Ent) : Pre E (E ++ [e]) := Pre.more E [e]
theorem Pre.ext {E E' : List Ent} (h : Pre E E') : Ext E E' := ⟨h.1, fun k e hk _ => (h.2 k (List.getElem?_eq_some_iff.1 hk).1).trans hk⟩
theorem Ext.blk {E E' : List Ent} (h : Ext E E') {k b c : Nat} (hk : E[k]? = some (.blk b c)) : E'[k]? = some (.blk b c) := h.2 k _ hk (by simp)
theorem Ext.clo {E E' : List Ent} (h : Ext E E') {k : Nat} {v : Value} (hk : E[k]? = some (.clo v)) : E'[k]? = some (.clo v) := h.2 k _ hk (by simp)
section Letters
variable [Sy]
theorem V0.ext {E E' : List Ent} (h : Ext E E') : ∀ (x : A1) (v : Value), V0 E x v → V0 E' x v
 | .b _, _, hv | .i _ _, _, hv | .s _, _, hv | .nilp, _, hv | .nils, _, hv | .nilm, _, hv | .nili, _, hv | .nilf, _, hv | .f _, _, hv | .y _, _, hv | .c 0, _, hv | .c (_ + 1), _, hv => hv
 | .p _ _, _, hv | .sl _ _ _ _, _, hv | .stl _ _ _ _ _, _, hv | .m _, _, hv => by
  obtain ⟨b, c, hk, hv⟩ := hv
  exact ⟨b, c, h.blk hk, hv⟩
 | .clo _, _, hv => ⟨h.clo hv.1, hv.2⟩
 | .ifc _ _, _, hv => ⟨h.clo hv.1, hv.2⟩
theorem V1.ext {E E' : List Ent} (h : Ext E E') (x : A1) (v : Value) (hv : V1 E x v) : V1 E' x v := V0.ext h _ _ hv
theorem V2.ext {E E' : List Ent} (h : Ext E E') : ∀ (x : A2) (v : Value), V2 E x v → V2 E' x v
 | .one _, _, hv => V1.ext h _ _ hv
 | .agg _, _, hv => by
  obtain ⟨cs, hc, hv⟩ := hv
  exact ⟨cs, hc.imp (V1.ext h), hv⟩
theorem VV.ext {E E' : List Ent} (h : Ext E E') : ∀ (x : AV) (v : Value), VV E x v → VV E' x v
 | .v _, _, hv => V2.ext h _ _ hv
 | .tup _, _, hv => by
  obtain ⟨cs, hc, hv⟩ := hv
  exact ⟨cs, hc.imp (V2.ext h), hv⟩
theorem V0.oneCell {E : List Ent} : ∀ (x : A1) (v : Value), V0 E x v → v.oneCell' = true
 | .b _, _, hv | .i _ _, _, hv | .nilp, _, hv | .nils, _, hv | .nilm, _, hv | .nili, _, hv | .nilf, _, hv | .f _, _, hv => by cases hv; rfl
 | .s _, _, hv => by cases hv.1; rfl
 | .p _ _, _, hv | .stl _ _ _ _ _, _, hv | .m _, _, hv => by
  obtain ⟨b, c, hk, hv⟩ := hv
  cases hv
  rfl
 | .sl _ _ _ _, _, hv => by
  obtain ⟨b, c, hk, hv, _⟩ := hv
  cases hv
  rfl
 | .clo _, _, hv => by
  obtain ⟨_, fn, fs, cs, hv⟩ := hv
  cases hv
  rfl
 | .ifc _ _, _, hv => by
  obtain ⟨_, x, hv⟩ := hv
  cases hv
  rfl
 | .y _, _, hv => hv.elim
 | .c 0, _, hv => hv
 | .c (i + 1), _, hv => by cases hv; exact Sy.one i
theorem V1.oneCell {E : List Ent} (x : A1) (v : Value) (hv : V1 E x v) : v.oneCell' = true := V0.oneCell _ _ hv
end Letters
/-! ### Memory -/
inductive Tr (α : Type) where
 | lf (o : Option α)
 | nd (l r : Tr α)
 deriving DecidableEq
section
variable {α : Type}
def Tr.get : Nat → Tr α → Nat → Option α
 | 0, .lf o, _ => o
 | d + 1, .nd l r, k => bif Nat.beq (k % 2) 0 then Tr.get d l (k / 2) else Tr.get d r (k / 2)
 | _, _, _ => none
def Tr.set : Nat → Tr α → Nat → Option α → Tr α
 | 0, _, _, o => .lf o
 | d + 1, .nd l r, k, o => bif Nat.beq (k % 2) 0 then .nd (Tr.set d l (k / 2) o) r else .nd l (Tr.set d r (k / 2) o)
 | d + 1, .lf _, k, o => bif Nat.beq (k % 2) 0 then .nd (Tr.set d (.lf none) (k / 2) o) (.lf none) else .nd (.lf none) (Tr.set d (.lf none) (k / 2) o)
theorem Tr.get_lf (d k : Nat) : Tr.get d (.lf none : Tr α) k = none := by cases d <;> rfl
theorem Tr.get_lf' (d k : Nat) (o : Option α) : Tr.get (d + 1) (.lf o) k = none := rfl
theorem Tr.get_nd (d k : Nat) (l r : Tr α) : Tr.get (d + 1) (.nd l r) k = bif Nat.beq (k % 2) 0 then Tr.get d l (k / 2) else Tr.get d r (k / 2) := rfl
theorem Tr.set_nd (d k : Nat) (l r : Tr α) (o : Option α) : Tr.set (d + 1) (.nd l r) k o = bif Nat.beq (k % 2) 0 then .nd (Tr.set d l (k / 2) o) r else .nd l (Tr.set d r (k / 2) o) := rfl
theorem Tr.set_lf (d k : Nat) (x o : Option α) : Tr.set (d + 1) (.lf x) k o = bif Nat.beq (k % 2) 0 then .nd (Tr.set d (.lf none) (k / 2) o) (.lf none) else .nd (.lf none) (Tr.set d (.lf none) (k / 2) o) := rfl
theorem Tr.get_same : ∀ (d : Nat) (t : Tr α) (k : Nat) (o : Option α), Tr.get d (Tr.set d t k o) k = o
 | 0, _, _, _ => rfl
 | d + 1, .nd l r, k, o => by
  rw [Tr.set_nd]
  cases h : Nat.beq (k % 2) 0
  · simp only [cond_false]
    rw [Tr.get_nd, h, cond_false]
    exact Tr.get_same d r (k / 2) o
  · simp only [cond_true]
    rw [Tr.get_nd, h, cond_true]
    exact Tr.get_same d l (k / 2) o
 | d + 1, .lf _, k, o => by
  rw [Tr.set_lf]
  cases h : Nat.beq (k % 2) 0
  · simp only [cond_false]
    rw [Tr.get_nd, h, cond_false]
    exact Tr.get_same d _ (k / 2) o
  · simp only [cond_true]
    rw [Tr.get_nd, h, cond_true]
    exact Tr.get_same d _ (k / 2) o
theorem beq_mod {k : Nat} : (Nat.beq (k % 2) 0 = true ↔ k % 2 = 0) := by simp [Nat.beq_eq]
theorem Tr.get_other : ∀ (d : Nat) (t : Tr α) (k j : Nat) (o : Option α), k < 2 ^ d → j < 2 ^ d → j ≠ k → Tr.get d (Tr.set d t k o) j = Tr.get d t j
 | 0, _, k, j, _, hk, hj, hne => by simp at hk hj; omega
 | d + 1, .nd l r, k, j, o, hk, hj, hne => by
  have hk2 : k / 2 < 2 ^ d := by rw [Nat.pow_succ] at hk; omega
  have hj2 : j / 2 < 2 ^ d := by rw [Nat.pow_succ] at hj; omega
  rw [Tr.set_nd]
  cases h : Nat.beq (k % 2) 0 <;> cases h2 : Nat.beq (j % 2) 0 <;> simp only [cond_false, cond_true, Tr.get_nd, h2]
  · refine Tr.get_other d r (k / 2) (j / 2) o hk2 hj2 ?_
    have a1 : ¬ k % 2 = 0 := fun e => by rw [beq_mod.2 e] at h; cases h
    have a2 : ¬ j % 2 = 0 := fun e => by rw [beq_mod.2 e] at h2; cases h2
    omega
  · refine Tr.get_other d l (k / 2) (j / 2) o hk2 hj2 ?_
    have a1 := beq_mod.1 h
    have a2 := beq_mod.1 h2
    omega
 | d + 1, .lf x, k, j, o, hk, hj, hne => by
  have hk2 : k / 2 < 2 ^ d := by rw [Nat.pow_succ] at hk; omega
  have hj2 : j / 2 < 2 ^ d := by rw [Nat.pow_succ] at hj; omega
  rw [Tr.get_lf', Tr.set_lf]
  cases h : Nat.beq (k % 2) 0 <;> cases h2 : Nat.beq (j % 2) 0 <;> simp only [cond_false, cond_true, Tr.get_nd, h2, Tr.get_lf]
  · rw [Tr.get_other d _ (k / 2) (j / 2) o hk2 hj2 (by
      have a1 : ¬ k % 2 = 0 := fun e => by rw [beq_mod.2 e] at h; cases h
      have a2 : ¬ j % 2 = 0 := fun e => by rw [beq_mod.2 e] at h2; cases h2
      omega), Tr.get_lf]
  · rw [Tr.get_other d _ (k / 2) (j / 2) o hk2 hj2 (by
      have a1 := beq_mod.1 h
      have a2 := beq_mod.1 h2
      omega), Tr.get_lf]
end
end Go.Ev
namespace Go.Ev
open Go Go.RowKit
variable [Sy]
abbrev D : Nat := 11
structure Hp where
 t : Tr AO
 n : Nat
 deriving DecidableEq
def Hp.get (h : Hp) (k : Nat) : Option AO := Tr.get D h.t k
def Hp.put (h : Hp) (k : Nat) (o : AO) : Hp := { t := Tr.set D h.t k (some o), n := h.n }
def Hp.del (h : Hp) (k : Nat) : Hp := { t := Tr.set D h.t k none, n := h.n }
def Hp.new (h : Hp) (o : AO) : Hp := { t := Tr.set D h.t h.n (some o), n := h.n + 1 }
/-- An entry of a map. -/
def ME (E : List Ent) (e : A1 × A2 × Nat) (m : MapEntry) : Prop := V1 E e.1 m.key ∧ V2 E e.2.1 m.val ∧ m.born = e.2.2
/-- Only bytes (type 5) may be frozen, and behind their end. -/
def FrOk (t n : Nat) (fr : Nat × Nat) : Prop := (n ≤ fr.1 ∧ t = 5) ∨ fr = (0, 0)
/-- What a block holds (c: the capacity of its name). -/
def Is0 (E : List Ent) (c : Nat) (x : Option Obj) : AO → Prop
 | .cells t l => ∃ cs fr, x = some (.cells cs t fr) ∧ FrOk t cs.size fr ∧ All2 (V1 E) l cs.toList
 | .row t z l => ∃ cs fr, x = some (.cells cs t fr) ∧ FrOk t cs.size fr ∧ cs.size = c * z ∧ c ≤ maxLen ∧ All2 (V1 E) l (cs.toList.take l.length)
 | .map es clock => ∃ ms, x = some (.map ms clock) ∧ All2 (ME E) es ms.toList
 | .iter k since seen last => ∃ b c', E[k]? = some (.blk b c') ∧ x = some (.mapIter (some b) since seen.toArray last)
 | .siter s pos => x = some (.stringIter (bytes s) pos)
 | .clo _ _ => False
 | .ifc _ _ => False
 | .y _ => False
 | .mapx es => ∃ ms cl, x = some (.map ms cl) ∧ All2 (fun (e : A1 × A2) (m : MapEntry) => V1 E e.1 m.key ∧ V2 E e.2 m.val) es ms.toList
def Is (E : List Ent) (c : Nat) (x : Option Obj) (o : AO) : Prop := Is0 E c x o.den
def OK (E : List Ent) (w : World) (k : Nat) : AO → Prop
 | .clo fn caps => ∃ cs : List Value, E[k]? = some (.clo (cloV fn cs.toArray)) ∧ All2 (V2 E) caps cs
 | .ifc t x => ∃ v : Value, E[k]? = some (.clo (.iface t v)) ∧ V2 E x v
 | o => ∃ b c, E[k]? = some (.blk b c) ∧ Is E c w.heap[b]? o
theorem OK.of_is {E : List Ent} {w : World} {k : Nat} {o : AO} {b c : Nat} (hk : E[k]? = some (.blk b c)) (h : Is E c w.heap[b]? o) : OK E w k o := by
 cases o <;> first | exact ⟨b, c, hk, h⟩ | exact h.elim
theorem OK.is {E : List Ent} {w : World} {k : Nat} {o : AO} {b c : Nat} (h : OK E w k o) (hk : E[k]? = some (.blk b c)) : Is E c w.heap[b]? o := by
 cases o <;> first
 | (obtain ⟨b', c', hk', h'⟩ := h
    rw [hk] at hk'
    injection hk' with hk'
    injection hk' with h1 h2
    subst h1; subst h2
    exact h')
 | (obtain ⟨cs, hk', _⟩ := h
    rw [hk] at hk'
    injection hk' with hk'
    cases hk')
/-- A world ahead, and which of its blocks are to stay as they are. -/
structure Base where
 w : World
 pr : Nat → Prop
 lt : ∀ b, pr b → b < w.heap.size
structure Kept (z : Base) (w : World) : Prop where
 os : w.os = z.w.os
 tape : w.tape = z.w.tape
 output : w.output = z.w.output
 size : z.w.heap.size ≤ w.heap.size
 block : ∀ k, z.pr k → w.heap[k]? = z.w.heap[k]?
theorem Kept.new {z : Base} {w : World} (h : Kept z w) : ¬ z.pr w.heap.size := fun hp => by
 have h1 := z.lt _ hp
 have h2 := h.size
 omega
theorem Kept.alloc {z : Base} {w : World} (h : Kept z w) (o : Obj) : Kept z (w.alloc o) := ⟨h.os, h.tape, h.output, Nat.le_trans h.size (by simp), fun k hk => by
 rw [Below.heap_alloc w o k (Nat.lt_of_lt_of_le (z.lt k hk) h.size)]
 exact h.block k hk⟩
theorem Kept.drew {z : Base} {w : World} (h : Kept z w) : Kept z w.drew := ⟨h.os, h.tape, h.output, h.size, h.block⟩
theorem Kept.setCell {z : Base} {w : World} (h : Kept z w) {p : Addr} (hp : ¬ z.pr p.block) (u : Value) : Kept z (w.setCell p u) := ⟨h.os, h.tape, h.output, by simpa [World.setCell] using h.size, fun k hk => by
 rw [Below.heap_setCell w p u k (fun e => hp (e ▸ hk))]
 exact h.block k hk⟩
structure Rep (w0 : Base) (E : List Ent) (h : Hp) (w : World) : Prop where
 below : Kept w0 w
 len : E.length = h.n
 bound : h.n ≤ 2 ^ D
 obj : ∀ (k : Nat) (o : AO), k < h.n → h.get k = some o → OK E w k o
 free : ∀ (k : Nat), h.n ≤ k → k < 2 ^ D → h.get k = none
 sep : ∀ (k k' : Nat) (o o' : AO) (b c c' : Nat), k < h.n → k' < h.n → h.get k = some o → h.get k' = some o' → E[k]? = some (Ent.blk b c) → E[k']? = some (Ent.blk b c') → k = k'
 old : ∀ (k : Nat) (o : AO) (b c : Nat), k < h.n → h.get k = some o → E[k]? = some (Ent.blk b c) → ¬ w0.pr b ∧ b < w.heap.size
section
variable {E E' : List Ent} {c : Nat} {x : Option Obj} {o : AO} {w0 : Base} {w w' : World} {h : Hp}
theorem ME.ext (he : Ext E E') (e : A1 × A2 × Nat) (m : MapEntry) (hm : ME E e m) : ME E' e m := ⟨V1.ext he _ _ hm.1, V2.ext he _ _ hm.2.1, hm.2.2⟩
theorem Is0.ext (he : Ext E E') (hi : Is0 E c x o) : Is0 E' c x o := by
 cases o with
 | cells t l =>
  obtain ⟨cs, fr, h1, h2, h3⟩ := hi
  exact ⟨cs, fr, h1, h2, h3.imp (V1.ext he)⟩
 | row t z l =>
  obtain ⟨cs, fr, h1, h2, h3, h4, h5⟩ := hi
  exact ⟨cs, fr, h1, h2, h3, h4, h5.imp (V1.ext he)⟩
 | map es clock =>
  obtain ⟨ms, h1, h2⟩ := hi
  exact ⟨ms, h1, h2.imp (ME.ext he)⟩
 | iter k since seen last =>
  obtain ⟨b, c', h1, h2⟩ := hi
  exact ⟨b, c', he.blk h1, h2⟩
 | siter s pos => exact hi
 | clo fn caps => exact hi
 | ifc t x => exact hi
 | y i => exact hi
 | mapx es =>
  obtain ⟨ms, cl, h1, h2⟩ := hi
  exact ⟨ms, cl, h1, h2.imp (fun e m hm => ⟨V1.ext he _ _ hm.1, V2.ext he _ _ hm.2⟩)⟩
theorem Is.ext (he : Ext E E') (hi : Is E c x o) : Is E' c x o := Is0.ext he hi
theorem OK.ext {k : Nat} (he : Ext E E') (hi : OK E w k o) : OK E' w k o := by
 cases o <;> first
 | (obtain ⟨b, c, hk, h2⟩ := hi
    exact ⟨b, c, he.blk hk, h2.ext he⟩)
 | (obtain ⟨cs, hk, h2⟩ := hi
    exact ⟨cs, he.clo hk, h2.imp (V2.ext he)⟩)
 | (obtain ⟨v, hk, h2⟩ := hi
    exact ⟨v, he.clo hk, V2.ext he _ _ h2⟩)
theorem lt_of_get {k : Nat} {e : Ent} (hr : Rep w0 E h w) (hk : E[k]? = some e) : k < h.n := by
 rw [← hr.len]
 exact (List.getElem?_eq_some_iff.1 hk).1
/-- A world that keeps the blocks of what is told. -/
theorem Rep.move (hr : Rep w0 E h w) (hb : Kept w0 w') (hs : w.heap.size ≤ w'.heap.size)
  (hm : ∀ (k : Nat) (o : AO) (b c : Nat), k < h.n → h.get k = some o → E[k]? = some (Ent.blk b c) → w'.heap[b]? = w.heap[b]?) : Rep w0 E h w' where
 below := hb
 len := hr.len
 bound := hr.bound
 free := hr.free
 sep := hr.sep
 old := fun k o b c hn ho hk => ⟨(hr.old k o b c hn ho hk).1, Nat.lt_of_lt_of_le (hr.old k o b c hn ho hk).2 hs⟩
 obj := fun k o hk ho => by
  have h1 := hr.obj k o hk ho
  cases o <;> first
  | (obtain ⟨b, c, hk', h2⟩ := h1
     refine ⟨b, c, hk', ?_⟩
     rw [hm k _ b c hk ho hk']
     exact h2)
  | exact h1
/-- The block of one name holds something else. -/
theorem Rep.put (hr : Rep w0 E h w) {k b c : Nat} {o o' : AO} (hk : E[k]? = some (.blk b c)) (ho : h.get k = some o) (hb : Kept w0 w') (hs : w.heap.size ≤ w'.heap.size)
  (hi : Is E c w'.heap[b]? o') (hm : ∀ j, j ≠ b → j < w.heap.size → w'.heap[j]? = w.heap[j]?) : Rep w0 E (h.put k o') w' := by
 have hkn := lt_of_get hr hk
 have hkd := Nat.lt_of_lt_of_le hkn hr.bound
 have hother : ∀ j, j < 2 ^ D → j ≠ k → (h.put k o').get j = h.get j := fun j hj hne => Tr.get_other D h.t k j _ hkd hj hne
 refine ⟨hb, hr.len, hr.bound, ?_, ?_, ?_, ?_⟩
 · intro j q hj hq
   have hj2 : j < h.n := hj
   have hjd := Nat.lt_of_lt_of_le hj2 hr.bound
   by_cases hjk : j = k
   · subst hjk
     have hq2 : q = o' := by
      have : (h.put j o').get j = some o' := Tr.get_same D h.t j _
      rw [this] at hq
      exact (Option.some.inj hq).symm
     subst hq2
     exact OK.of_is hk hi
   · rw [hother j hjd hjk] at hq
     have h1 := hr.obj j q hj2 hq
     cases q <;> first
     | (obtain ⟨b', c', hk', h2⟩ := h1
        refine ⟨b', c', hk', ?_⟩
        rw [hm b' (fun e => hjk (by subst e; exact hr.sep j k _ _ _ _ _ hj2 hkn hq ho hk' hk)) (hr.old j _ b' c' hj2 hq hk').2]
        exact h2)
     | exact h1
 · intro j hj hjd
   have hj2 : h.n ≤ j := hj
   rw [hother j hjd (by omega)]
   exact hr.free j hj hjd
 · intro j j' q q' b1 c1 c2 hj hj' hq hq' h1 h2
   have live : ∀ i z, i < h.n → (h.put k o').get i = some z → ∃ z', h.get i = some z' := by
    intro i z hi hz
    by_cases e : i = k
    · subst e; exact ⟨o, ho⟩
    · rw [hother i (Nat.lt_of_lt_of_le hi hr.bound) e] at hz
      exact ⟨z, hz⟩
   obtain ⟨z, hz⟩ := live j q hj hq
   obtain ⟨z', hz'⟩ := live j' q' hj' hq'
   exact hr.sep j j' z z' b1 c1 c2 hj hj' hz hz' h1 h2
 · intro j q b1 c1 hj2 hq hj
   have hj2 : j < h.n := hj2
   obtain ⟨z, hz⟩ : ∃ z, h.get j = some z := by
    by_cases e : j = k
    · subst e; exact ⟨o, ho⟩
    · rw [hother j (Nat.lt_of_lt_of_le hj2 hr.bound) e] at hq
      exact ⟨q, hq⟩
   exact ⟨(hr.old j z b1 c1 hj2 hz hj).1, Nat.lt_of_lt_of_le (hr.old j z b1 c1 hj2 hz hj).2 hs⟩
/-- A name is told of no more. -/
theorem Rep.del (hr : Rep w0 E h w) {k : Nat} (hk : k < h.n) : Rep w0 E (h.del k) w := by
 have hkd := Nat.lt_of_lt_of_le hk hr.bound
 have hother : ∀ j, j < 2 ^ D → j ≠ k → (h.del k).get j = h.get j := fun j hj hne => Tr.get_other D h.t k j _ hkd hj hne
 have hsame : (h.del k).get k = none := Tr.get_same D h.t k none
 have live : ∀ i z, i < h.n → (h.del k).get i = some z → h.get i = some z := by
  intro i z hi hz
  by_cases e : i = k
  · subst e
    rw [hsame] at hz
    cases hz
  · rwa [hother i (Nat.lt_of_lt_of_le hi hr.bound) e] at hz
 refine ⟨hr.below, hr.len, hr.bound, fun j q hj hq => hr.obj j q hj (live j q hj hq), fun j hj hjd => ?_, fun j j' q q' b1 c1 c2 hj hj' hq hq' h1 h2 => hr.sep j j' q q' b1 c1 c2 hj hj' (live j q hj hq) (live j' q' hj' hq') h1 h2, fun j q b1 c1 hj hq he => hr.old j q b1 c1 hj (live j q hj hq) he⟩
 have hj2 : h.n ≤ j := hj
 rw [hother j hjd (by omega)]
 exact hr.free j hj hjd
/-- A new name. -/
theorem Rep.grow (hr : Rep w0 E h w) {e : Ent} {o : AO} (hn : h.n < 2 ^ D) (hok : OK (E ++ [e]) w h.n o)
  (hnew : ∀ (b c : Nat), e = Ent.blk b c → ¬ w0.pr b ∧ b < w.heap.size ∧ ∀ (k : Nat) (q : AO) (c' : Nat), k < h.n → h.get k = some q → E[k]? ≠ some (Ent.blk b c')) : Rep w0 (E ++ [e]) (h.new o) w := by
 have hl : E.length = h.n := hr.len
 have hx : Ext E (E ++ [e]) := Ext.one E e
 have hlast : (E ++ [e])[h.n]? = some e := by rw [← hl]; simp
 have hback : ∀ k f, k < h.n → (E ++ [e])[k]? = some f → E[k]? = some f := by
  intro k f hk hf
  rwa [List.getElem?_append_left (by omega)] at hf
 have hother : ∀ j, j < 2 ^ D → j ≠ h.n → (h.new o).get j = h.get j := fun j hj hne => Tr.get_other D h.t h.n j _ hn hj hne
 have hsame : (h.new o).get h.n = some o := Tr.get_same D h.t h.n _
 refine ⟨hr.below, by simp [hl, Hp.new], hn, ?_, ?_, ?_, ?_⟩
 · intro j q hj hq
   have hj2 : j < h.n + 1 := hj
   by_cases hjn : j = h.n
   · subst hjn
     rw [hsame] at hq
     cases hq
     exact hok
   · rw [hother j (by omega) hjn] at hq
     exact (hr.obj j q (by omega) hq).ext hx
 · intro j hj hjd
   have hj2 : h.n + 1 ≤ j := hj
   rw [hother j hjd (by omega)]
   exact hr.free j (by omega) hjd
 · intro j j' q q' b1 c1 c2 hj hj' hq hq' h1 h2
   have hj2 : j < h.n + 1 := hj
   have hj2' : j' < h.n + 1 := hj'
   by_cases e1 : j = h.n <;> by_cases e2 : j' = h.n
   · omega
   · subst e1
     rw [hlast] at h1
     rw [hother j' (by omega) e2] at hq'
     exact absurd (hback j' _ (by omega) h2) ((hnew b1 c1 (Option.some.inj h1)).2.2 j' q' c2 (by omega) hq')
   · subst e2
     rw [hlast] at h2
     rw [hother j (by omega) e1] at hq
     exact absurd (hback j _ (by omega) h1) ((hnew b1 c2 (Option.some.inj h2)).2.2 j q c1 (by omega) hq)
   · rw [hother j (by omega) e1] at hq
     rw [hother j' (by omega) e2] at hq'
     exact hr.sep j j' q q' b1 c1 c2 (by omega) (by omega) hq hq' (hback j _ (by omega) h1) (hback j' _ (by omega) h2)
 · intro j q b1 c1 hjn hq hj
   have hjn : j < h.n + 1 := hjn
   by_cases e1 : j = h.n
   · subst e1
     rw [hlast] at hj
     have := hnew b1 c1 (Option.some.inj hj)
     exact ⟨this.1, this.2.1⟩
   · rw [hother j (by omega) e1] at hq
     exact hr.old j q b1 c1 (by omega) hq (hback j _ (by omega) hj)
/-- A new block at the memory's end. -/
theorem Rep.alloc (hr : Rep w0 E h w) {ob : Obj} {o : AO} (c : Nat) (hn : h.n < 2 ^ D) (hi : Is (E ++ [.blk w.heap.size c]) c (some ob) o) : Rep w0 (E ++ [.blk w.heap.size c]) (h.new o) (w.alloc ob) := by
 have hb : Kept w0 (w.alloc ob) := hr.below.alloc ob
 have hr2 : Rep w0 E h (w.alloc ob) := hr.move hb (by simp only [World.alloc, Array.size_push]; omega) (fun k q b c' _ _ hk => Below.heap_alloc w ob b (hr.old k q b c' (by assumption) (by assumption) hk).2)
 refine hr2.grow hn (OK.of_is (b := w.heap.size) (c := c) (by rw [← hr.len]; simp) ?_) ?_
 · rw [heap_alloc_new]
   exact hi
 · intro b c' hbc
   injection hbc with h1 h2
   subst h1
   refine ⟨hr.below.new, by simp only [World.alloc, Array.size_push]; omega, fun k q c2 hk hq he => ?_⟩
   have := (hr.old k q _ _ hk hq he).2
   omega
end
end Go.Ev
namespace Go.Ev
open Go Go.RowKit
def A2.cells : A2 → List A1
 | .one x => [x]
 | .agg l => l
def undefA : AV := .tup []
def asA1 : Value → Option A1
 | .bool x => some (.b x)
 | .int k n => some (.i k n)
 | .string s => some (.s (s.data.toList.map UInt8.toNat))
 | .pointer none => some .nilp
 | .slice none 0 0 => some .nils
 | .map none => some .nilm
 | .nilFunc => some .nilf
 | .nilIface => some .nili
 | .func (.func f) first caps => if first.size = 0 ∧ caps.size = 0 then some (.f f) else none
 | _ => none
def allSome {α β : Type} (f : α → Option β) : List α → Option (List β)
 | [] => some []
 | a :: l => match f a, allSome f l with
   | some b, some m => some (b :: m)
   | _, _ => none
def asA2 : Value → Option A2
 | .agg cs => (allSome asA1 cs.toList).map .agg
 | v => (asA1 v).map .one
def asAV : Value → Option AV
 | .tuple vs => if vs.size = 0 then some (.tup []) else none
 | v => (asA2 v).map .v
/-- A frame's temporaries. -/
abbrev Fr := Tr AV
abbrev DT : Nat := 8
def evA (A : Fr) : Operand → Option AV
 | .tmp t => bif Nat.blt t 256 then Tr.get DT A t else none
 | .const v => asAV v
 | .func f => some (.v (.one (.f f)))
 | .global _ => none
/-- What an operation turns in memory. -/
inductive U where
 | put (k : Nat) (o : AO)
 | new (o : AO)
 | del (k : Nat)
def apU (h : Hp) : List U → Hp
 | [] => h
 | .put k o :: r => apU (h.put k o) r
 | .new o :: r => apU (h.new o) r
 | .del k :: r => apU (h.del k) r
section
variable (P : Program)
def sizeT (t : TypeId) : Option Nat := (P.info? t).map (·.size)
def bytesT (t : TypeId) : Option Nat := (P.info? t).map (·.bytes)
def zeroT (t : TypeId) : Option A2 := ((P.info? t).bind (·.zero)).bind asA2
def isAggT (t : TypeId) : Option Bool := (P.underlying t).map fun d => match d with | .struct _ | .array _ _ => true | _ => false
def rowOf : AO → Option (List A1)
 | .cells _ l => some l
 | .row _ _ l => some l
 | _ => none
def reRow : AO → List A1 → Option AO
 | .cells t _, l => some (.cells t l)
 | .row t z _, l => some (.row t z l)
 | _, _ => none
/-- Is it one of bytes? -/
def byteO : AO → Bool
 | .cells t _ => Nat.beq t 5
 | .row t _ _ => Nat.beq t 5
 | _ => false
/-- n cells from o on. -/
def seg (l : List A1) (o n : Nat) : Option (List A1) := if o + n ≤ l.length then some ((l.drop o).take n) else none
def over (l : List A1) (o : Nat) (cs : List A1) : Option (List A1) := if o + cs.length ≤ l.length then some (l.take o ++ cs ++ l.drop (o + cs.length)) else none
def evLoad (t : TypeId) (x : AV) (h : Hp) : Option AV :=
 match x with
 | .v (.one (.p k o)) =>
  match (h.get k).bind rowOf, isAggT P t with
  | some l, some false => (l[o]?).map fun y => .v (.one y)
  | some l, some true => match sizeT P t with
    | some n => (seg l o n).map fun m => .v (.agg m)
    | none => none
  | _, _ => none
 | _ => none
def evStore (t : TypeId) (x y : AV) (h : Hp) : Option (List U) :=
 match x, y with
 | .v (.one (.p k o)), .v w =>
  match h.get k, sizeT P t with
  | some q, some n => if w.cells.length = n then
     match rowOf q with
     | some l => match over l o w.cells with
       | some l' => (reRow q l').map fun q' => [.put k q']
       | none => none
     | none => none
    else none
  | _, _ => none
 | _, _ => none
def fieldOff (s : TypeId) (f : Nat) : Option (Nat × TypeId) :=
 match P.underlying s with
 | some (.struct fs) => (fs[f]?).map fun x => (x.offset, x.type)
 | _ => none
def intOf : AV → Option Int
 | .v (.one (.i _ n)) => some n
 | _ => none
def elemT (t : TypeId) : Option TypeId :=
 match P.underlying t with
 | some (.slice e) => some e
 | _ => none
def evIndexAddr (t : TypeId) (x i : AV) : Option AV :=
 match P.underlying t, x, intOf i with
 | some (.slice e), .v (.one (.sl k o n c)), some j => if 0 ≤ j ∧ j < n then (sizeT P e).map fun z => .v (.one (.p k (o + j.toNat * z))) else none
 | some (.array n e), .v (.one (.p k o)), some j => if 0 ≤ j ∧ j < n then (sizeT P e).map fun z => .v (.one (.p k (o + j.toNat * z))) else none
 | _, _, _ => none
def bnd (d : Nat) : Option AV → Option Nat
 | none => some d
 | some x => (intOf x).bind fun i => if 0 ≤ i then some i.toNat else none
def evSlice (t : TypeId) (x : AV) (lo hi mx : Option AV) : Option AV :=
 match P.underlying t, x, mx with
 | some .string, .v (.one (.s l)), none =>
  match bnd 0 lo, bnd l.length hi with
  | some a, some b => if a ≤ b ∧ b ≤ l.length then some (.v (.one (.s ((l.drop a).take (b - a))))) else none
  | _, _ => none
 | some (.slice e), .v (.one .nils), none =>
  match sizeT P e, bnd 0 lo, bnd 0 hi with
  | some _, some 0, some 0 => some (.v (.one .nils))
  | _, _, _ => none
 | some (.slice e), .v (.one (.sl k o n c)), none =>
  match sizeT P e, bnd 0 lo, bnd n hi, c with
  | some z, some a, some b, .ex m => if a ≤ b ∧ b ≤ m ∧ a < m then some (.v (.one (.sl k (o + a * z) (b - a) (.ex (m - a))))) else none
  | some z, some a, some b, .un j => if a ≤ b ∧ b ≤ n ∧ a < n then some (.v (.one (.sl k (o + a * z) (b - a) (.un (j + a))))) else if a = n ∧ b = n then some (.v (.one (.stl k o z a j))) else none
  | _, _, _, _ => none
 | some (.slice e), .v (.one (.sl k o n c)), some mx =>
  match sizeT P e, bnd 0 lo, hi, bnd 0 (some mx) with
  | some z, some a, some hv, some m => match bnd 0 (some hv) with
    | some b => if a ≤ b ∧ b ≤ m ∧ a < m ∧ m ≤ n then some (.v (.one (.sl k (o + a * z) (b - a) (.ex (m - a))))) else none
    | none => none
  | _, _, _, _ => none
 | _, _, _ => none
/-- The cells of what is appended or copied. -/
def cellsIn (h : Hp) (z : Nat) : AV → Option (List A1)
 | .v (.one (.sl k o n _)) => ((h.get k).bind rowOf).bind fun l => seg l o (n * z)
 | _ => none
def lenIn : AV → Option Nat
 | .v (.one .nils) => some 0
 | .v (.one (.sl _ _ n _)) => some n
 | .v (.one (.stl ..)) => some 0
 | _ => none
def mkRow (h : Hp) (e z : Nat) (l : List A1) (n : Nat) (us : List U) : Option (AV × List U) :=
 match zeroT P e, bytesT P e with
 | some zz, some b => if h.n < 2 ^ D ∧ zz.cells.length = z ∧ n * b ≤ 140737488355328 ∧ n ≤ 1000000 ∧ l.length = n * z then some (.v (.one (.sl h.n 0 n (.un 0))), us ++ [.new (.row e z l)]) else none
 | _, _ => none
def evAppend (h : Hp) (t u : TypeId) (s x : AV) : Option (AV × List U) :=
 if t = u then
 match elemT P t, x with
 | some e, .v (.one (.sl _ _ m _)) =>
  match sizeT P e with
  | some z =>
   match cellsIn h z x with
   | none => none
   | some cs =>
    match s with
    | .v (.one .nils) => if m = 0 then none else mkRow P h e z cs m []
    | .v (.one (.sl k o n (.ex c))) =>
      if n + m ≤ c then none
      else match cellsIn h z s with
       | some old => mkRow P h e z (old ++ cs) (n + m) []
       | none => none
    | .v (.one (.sl k 0 n (.un 0))) =>
      if m = 0 then none else
      match h.get k with
      | some (.row t' z' l) => if t' = e ∧ z' = z ∧ n * z ≤ l.length then mkRow P h e z (l.take (n * z) ++ cs) (n + m) [.del k] else none
      | _ => none
    | _ => none
  | none => none
 | _, _ => none
 else none
def evCopy (h : Hp) (t : TypeId) (d x : AV) : Option (AV × List U) :=
 match elemT P t with
 | none => none
 | some e =>
  match sizeT P e, d, x with
  | some z, .v (.one (.sl k o a _)), .v (.one (.sl _ _ b _)) =>
   match cellsIn h z x, h.get k with
   | some cs, some q => match rowOf q with
      | some l => match over l o (cs.take (Nat.min b a * z)) with
        | some l' => (reRow q l').map fun q' => (.v (.one (.i .i64 (Nat.min b a : Nat))), [.put k q'])
        | none => none
      | none => none
   | _, _ => none
  | _, _, _ => none
/-- Two lists of numbers, the same? -/
def eqL : List Nat → List Nat → Bool
 | [], [] => true
 | a :: l, b :: m => bif Nat.beq a b then eqL l m else false
 | _, _ => false
def sameKey : A1 → A1 → Option Bool
 | .i k a, .i k' b => if k = k' then some (a == b) else none
 | .s a, .s b => some (eqL a b)
 | _, _ => none
def keyOk : Option TypeDesc → A1 → Bool
 | some (.int _), .i _ _ => true
 | some .string, .s _ => true
 | _, _ => false
/-- The first entry that is the key's: where, and what. -/
def findE (k : A1) : List (A1 × A2 × Nat) → Nat → Option (Option (Nat × A2))
 | [], _ => some none
 | e :: es, i => match sameKey k e.1 with
   | some true => some (some (i, e.2.1))
   | some false => findE k es (Nat.succ i)
   | none => none
def mapOf (h : Hp) : AV → Option (List (A1 × A2 × Nat))
 | .v (.one (.m k)) => match h.get k with
   | some (.map es _) => some es
   | _ => none
 | _ => none
def evLookup (h : Hp) (t : TypeId) (x i : AV) (ok : Bool) : Option AV :=
 match P.underlying t, mapOf h x, i with
 | some (.map kt e), some es, .v (.one key) =>
  match keyOk (P.underlying kt) key, findE key es 0 with
  | true, some (some (_, v)) => some (if ok then .tup [v, .one (.b true)] else .v v)
  | true, some none => match zeroT P e with
    | some z => some (if ok then .tup [z, .one (.b false)] else .v z)
    | none => none
  | _, _ => none
 | _, _, _ => none
def evMapUpdate (h : Hp) (t : TypeId) (x i v : AV) : Option (List U) :=
 match P.underlying t, x, i, v with
 | some (.map kt _), .v (.one (.m k)), .v (.one key), .v w =>
  match keyOk (P.underlying kt) key, h.get k with
  | true, some (.map es cl) => match findE key es 0 with
    | some none => some [.put k (.map (es ++ [(key, w, cl)]) (cl + 1))]
    | some (some (i, _)) => match es[i]? with
      | some e => some [.put k (.map (es.set i (key, w, e.2.2)) cl)]
      | none => none
    | none => none
  | _, _ => none
 | _, _, _, _ => none
def zeros (z : List A1) (n : Nat) : List A1 := (List.replicate n z).flatten
def evMakeSlice (h : Hp) (t : TypeId) (l c : AV) : Option (AV × List U) :=
 match elemT P t, intOf l, intOf c with
 | some e, some a, some b =>
  match zeroT P e, sizeT P e, bytesT P e with
  | some z, some n, some y => if 0 ≤ a ∧ a ≤ b ∧ b ≤ 1000000 ∧ y ≤ 1000000 ∧ z.cells.length = n ∧ h.n < 2 ^ D then some (.v (.one (.sl h.n 0 a.toNat (.ex b.toNat))), [.new (.cells e (zeros z.cells b.toNat))]) else none
  | _, _, _ => none
 | _, _, _ => none
def fillF (place : Nat → Option (Nat × Nat)) (cs : List A1) : List (Nat × A2) → Option (List A1)
 | [] => some cs
 | (i, v) :: r => match place i with
   | some (o, n) => if v.cells.length = n then match over cs o v.cells with
      | some cs' => fillF place cs' r
      | none => none
     else none
   | none => none
def asV2 : AV → Option A2
 | .v x => some x
 | _ => none
def evBuild (t : TypeId) (ps : List (Nat × AV)) : Option AV :=
 match zeroT P t, P.underlying t, allSome (fun p => (asV2 p.2).map fun x => (p.1, x)) ps with
 | some z, some (.struct fs), some qs => match fs.toList.all fun f => (sizeT P f.type).isSome with
   | true => (fillF (fun i => (fs[i]?).bind fun f => (sizeT P f.type).map fun n => (f.offset, n)) z.cells qs).map fun l => .v (.agg l)
   | false => none
 | some z, some (.array _ e), some qs => match sizeT P e with
   | some n => (fillF (fun i => some (i * n, n)) z.cells qs).map fun l => .v (.agg l)
   | none => none
 | _, _, _ => none
def evBuildSlice (h : Hp) (t : TypeId) (n : Nat) (ps : List (Nat × AV)) : Option (AV × List U) :=
 match elemT P t, allSome (fun p => (asV2 p.2).map fun x => (p.1, x)) ps with
 | some e, some qs => match sizeT P e, zeroT P e with
   | some z, some zz => if zz.cells.length = z ∧ n * z ≤ 1000000 ∧ h.n < 2 ^ D then
      match fillF (fun i => some (i * z, z)) (zeros zz.cells n) qs with
      | some l => some (.v (.one (.sl h.n 0 n (.ex n))), [.new (.cells e l)])
      | none => none
     else none
   | _, _ => none
 | _, _ => none
def evNew (h : Hp) (t : TypeId) (x : A2) : Option (AV × List U) := if h.n < 2 ^ D then some (.v (.one (.p h.n 0)), [.new (.cells t x.cells)]) else none
def bitsI (f : Nat → Nat → Nat) (k : IntKind) (x y : Int) : Int := k.wrap (f (BitVec.ofInt k.bits x).toNat (BitVec.ofInt k.bits y).toNat)
def lessL : List Nat → List Nat → Bool
 | _, [] => false
 | [], _ :: _ => true
 | a :: x, b :: y => a < b || (a == b && lessL x y)
def cmpI (op : BinOp) (x y : Int) : Option Bool :=
 match op with
 | .eql => some (x == y)
 | .neq => some (x != y)
 | .lss => some (decide (x < y))
 | .leq => some (decide (x ≤ y))
 | .gtr => some (decide (x > y))
 | .geq => some (decide (x ≥ y))
 | _ => none
/-- == at a type, of values that are no numbers and no texts. -/
def evEq (t : TypeId) (x y : A1) : Option Bool :=
 match P.underlying t, x, y with
 | some (.pointer _), .nilp, .nilp => some true
 | some (.pointer _), .p _ _, .nilp => some false
 | some (.slice _), .sl .., .nils => some false
 | some (.slice _), .nils, .nils => some true
 | some (.interface _), .ifc _ _, .nili => some false
 | _, _, _ => none
def evBin (op : BinOp) (t : TypeId) (x y : AV) : Option AV :=
 match x, y with
 | .v (.one (.i k a)), .v (.one (.i k' c)) =>
  match op with
  | .shl => if 0 ≤ c then some (.v (.one (.i k (k.wrap (a * 2 ^ (min c.toNat k.bits)))))) else none
  | .shr => if 0 ≤ c then some (.v (.one (.i k (a.fdiv (2 ^ (min c.toNat k.bits)))))) else none
  | _ => if k = k' then
    match op with
    | .add => some (.v (.one (.i k (k.wrap (a + c)))))
    | .sub => some (.v (.one (.i k (k.wrap (a - c)))))
    | .mul => some (.v (.one (.i k (k.wrap (a * c)))))
    | .quo => if c = 0 then none else some (.v (.one (.i k (k.wrap (a.tdiv c)))))
    | .rem => if c = 0 then none else some (.v (.one (.i k (a.tmod c))))
    | .and => some (.v (.one (.i k (bitsI (· &&& ·) k a c))))
    | .or => some (.v (.one (.i k (bitsI (· ||| ·) k a c))))
    | .xor => some (.v (.one (.i k (bitsI (· ^^^ ·) k a c))))
    | op => (cmpI op a c).map fun r => .v (.one (.b r))
   else none
 | .v (.one (.s a)), .v (.one (.s c)) =>
  match op with
  | .add => if a.length + c.length ≤ 1000000 then some (.v (.one (.s (a ++ c)))) else none
  | .eql => some (.v (.one (.b (a == c))))
  | .neq => some (.v (.one (.b (!(a == c)))))
  | _ => none
 | .v (.one a), .v (.one c) =>
  match op, evEq P t a c with
  | .eql, some r => some (.v (.one (.b r)))
  | .neq, some r => some (.v (.one (.b (!r))))
  | _, _ => none
 | _, _ => none
def evUn (op : UnOp) (x : AV) : Option AV :=
 match op, x with
 | .not, .v (.one (.b b)) => some (.v (.one (.b (!b))))
 | .xor, .v (.one (.i k n)) => some (.v (.one (.i k (bitsI (· ^^^ ·) k (if k.signed then -1 else k.max) n))))
 | _, _ => none
def u8s : List A1 → Option (List Nat)
 | [] => some []
 | .i .u8 (.ofNat n) :: l => bif Nat.blt n 256 then (u8s l).map fun m => n :: m else none
 | _ => none
def evConvP (src dst : TypeId) (x : AV) : Option AV :=
 match P.underlying src, P.underlying dst, x with
 | some _, some (.int k), .v (.one (.i _ n)) => some (.v (.one (.i k (k.wrap n))))
 | _, _, _ => none
def evConvM (h : Hp) (src dst : TypeId) (x : AV) : Option (AV × List U) :=
 match P.underlying src, P.underlying dst, x with
 | some .string, some (.slice e), .v (.one (.s l)) =>
  match P.underlying e with
  | some (.int .u8) => if h.n < 2 ^ D ∧ l.length ≤ 1000000 ∧ e = 5 then some (.v (.one (.sl h.n 0 l.length (.un 0))), [.new (.row e 1 (l.map fun (c : Nat) => .i .u8 (c : Int)))]) else none
  | _ => none
 | some (.slice _), some (.slice e), .v (.one (.sl k o n c)) => if src = dst then match P.underlying e, h.get k with
   | some (.int .u8), some q => match rowOf q, byteO q with
     | some _, true => some (x, [.put k q])
     | _, _ => none
   | _, _ => none
  else none
 | some (.slice e), some .string, .v (.one (.sl k o n c)) =>
  match P.underlying e, cellsIn h 1 x with
  | some (.int .u8), some cs => (u8s cs).map fun l => (.v (.one (.s l)), [])
  | _, _ => none
 | _, _, _ => none
def evRange (h : Hp) (t : TypeId) (x : AV) : Option (AV × List U) :=
 if h.n < 2 ^ D then
 match P.underlying t, x with
 | some .string, .v (.one (.s l)) => some (.v (.one (.p h.n 0)), [.new (.siter l 0)])
 | some (.map _ _), .v (.one (.m k)) => match h.get k with
   | some (.map _ cl) => some (.v (.one (.p h.n 0)), [.new (.iter k cl [] cl)])
   | _ => none
 | _, _ => none
 else none
def evNext (h : Hp) (x : AV) (isS : Bool) : Option (AV × List U) :=
 match x, isS with
 | .v (.one (.p k 0)), true => match h.get k with
   | some (.siter s pos) => match s[pos]? with
     | some c => if c < 128 then some (.tup [.one (.b true), .one (.i .i64 pos), .one (.i .i32 c)], [.put k (.siter s (pos + 1))]) else none
     | none => some (.tup [.one (.b false)], [])
   | _ => none
 | .v (.one (.p k 0)), false => match h.get k with
   | some (.iter m since seen last) => match h.get m with
     | some (.map es cl) =>
       let left := es.filter fun e => !seen.contains e.2.2
       let old := left.filter fun e => decide (e.2.2 < since)
       let new := left.filter fun e => decide (e.2.2 ≥ since)
       if !seen.isEmpty && !es.isEmpty && es.all (fun e => decide (e.2.2 ≥ last)) then none else
       match old, new with
       | [], [] => some (.tup [.one (.b false)], [])
       | [e], [] => some (.tup [.one (.b true), .one e.1, e.2.1], [.put k (.iter m since (seen ++ [e.2.2]) cl)])
       | _, _ => none
     | _ => none
   | _ => none
 | _, _ => none
def evEntry (h : Hp) (x : AV) : Option AV :=
 match x with
 | .v (.one (.p k 0)) => match h.get k with
   | some (.iter m _ seen st) => match h.get m, seen.getLast? with
     | some (.map es cl), some b => if cl = st then (es.find? fun e => e.2.2 == b).map fun e => .tup [.one e.1, e.2.1] else none
     | _, _ => none
   | _ => none
 | _ => none
def evLenP (t : TypeId) (x : AV) : Option AV :=
 match P.underlying t, x with
 | some .string, .v (.one (.s l)) => some (.v (.one (.i .i64 l.length)))
 | some (.slice _), .v (.one (.s _)) => none
 | some (.slice _), y => (lenIn y).map fun n => .v (.one (.i .i64 n))
 | _, _ => none
def evLenM (h : Hp) (t : TypeId) (x : AV) : Option AV :=
 match P.underlying t, x with
 | some (.map _ _), y => (mapOf h y).map fun es => .v (.one (.i .i64 es.length))
 | _, _ => none
def evClear (h : Hp) (t : TypeId) (x : AV) : Option (List U) :=
 match P.underlying t, x with
 | some (.map _ _), .v (.one (.m k)) => match h.get k with
   | some (.map _ cl) => some [.put k (.map [] cl)]
   | _ => none
 | _, _ => none
def evDelete (h : Hp) (t : TypeId) (x k : AV) : Option (List U) :=
 match P.underlying t, x, k with
 | some (.map kt _), .v (.one (.m m)), .v (.one key) => match keyOk (P.underlying kt) key, h.get m with
   | true, some (.map es cl) => match findE key es 0 with
     | some none => some [.put m (.map es cl)]
     | some (some (i, _)) => some [.put m (.map (es.eraseIdx i) cl)]
     | none => none
   | _, _ => none
 | _, _, _ => none
def evField (t : TypeId) (x : AV) (f : Nat) : Option AV :=
 match fieldOff P t f, x with
 | some (o, ty), .v (.agg l) => match isAggT P ty, sizeT P ty with
   | some true, some n => (seg l o n).map fun m => .v (.agg m)
   | _, _ => none
 | _, _ => none
def evIndex (t : TypeId) (x i : AV) : Option AV :=
 match P.underlying t, x, intOf i with
 | some .string, .v (.one (.s l)), some j => if 0 ≤ j then (l[j.toNat]?).map fun c => .v (.one (.i .u8 c)) else none
 | some (.array n e), .v (.agg l), some j => if 0 ≤ j ∧ j < n then match isAggT P e, sizeT P e with
    | some false, some z => (l[j.toNat * z]?).map fun y => .v (.one y)
    | _, _ => none
   else none
 | _, _, _ => none
def foldMM (f : Int → Int → Int) : List AV → Option AV
 | .v (.one (.i k a)) :: r => go k a r
 | _ => none
  where go (k : IntKind) (a : Int) : List AV → Option AV
 | [] => some (.v (.one (.i k a)))
 | .v (.one (.i _ b)) :: r => go k (f a b) r
 | _ => none
def isIface (t : TypeId) : Option Bool := (P.underlying t).map fun d => match d with | .interface _ => true | _ => false
def evMakeIface (h : Hp) (t : TypeId) (x : AV) : Option (AV × List U) :=
 match isIface P t, x with
 | some false, .v w => if h.n < 2 ^ D then some (.v (.one (.ifc t h.n)), [.new (.ifc t w)]) else none
 | _, _ => none
def evAssert (h : Hp) (x : AV) (want : TypeId) (ok : Bool) : Option AV :=
 match isIface P want, x with
 | some false, .v (.one (.ifc t k)) => if t = want then match h.get k with
    | some (.ifc _ w) => some (if ok then .tup [w, .one (.b true)] else .v w)
    | _ => none
   else if ok then (zeroT P want).map fun z => .tup [z, .one (.b false)] else none
 | some false, .v (.one .nili) => if ok then (zeroT P want).map fun z => .tup [z, .one (.b false)] else none
 | _, _ => none
def byteL (h : Hp) (x : AV) : Option (List Nat) := match x with
 | .v (.one (.s l)) => some l
 | .v (.one .nils) => some []
 | .v (.one (.stl ..)) => some []
 | _ => (cellsIn h 1 x).bind u8s
def idxB (c : Nat) : List Nat → Nat → Int
 | [], _ => -1
 | a :: l, i => if a = c then (i : Int) else idxB c l (i + 1)
def cntB (c : Nat) : List Nat → Nat
 | [] => 0
 | a :: l => (if a = c then 1 else 0) + cntB c l
/-- A number, worked out before it goes on. -/
def fN {β : Type} (n : Nat) (k : Nat → β) : β := match n with
 | 0 => k 0
 | Nat.succ m => k (Nat.succ m)
def cBit (c : Nat) : Nat := bif Nat.beq (Nat.mod c 2) 1 then Nat.xor (Nat.div c 2) 2197175160 else Nat.div c 2
def cBits : Nat → Nat → Nat
 | 0, c => c
 | n + 1, c => fN (cBit c) fun c => cBits n c
/-- The sum of bytes, before its last turn. -/
def cBytes : List Nat → Nat → Nat
 | [], c => c
 | b :: l, c => fN (cBits 8 (Nat.xor c b)) fun c => cBytes l c
def byteExt (kind c : Nat) (l : List Nat) : Option AV := if kind = 1 then some (.v (.one (.i .i64 (idxB c l 0)))) else if kind = 2 then some (.v (.one (.i .i64 (cntB c l)))) else none
/-- Functions that are known by what they do: 1: the first place of a byte, 2: how many, 3: the sum of bytes. -/
def evExt (kind : Nat) (h : Hp) (xs : List AV) : Option AV := match xs with
 | [x, .v (.one (.i .u8 (.ofNat c)))] => if c < 256 then match byteL h x with
   | some l => byteExt kind c l
   | none => none
  else none
 | [.v (.one (.i .u32 (.ofNat c))), .v (.one (.sl k o n cp))] => if kind = 3 ∧ c < 4294967296 ∧ n ≤ 1000000 then match byteL h (.v (.one (.sl k o n cp))) with
   | some l => some (.v (.one (.i .u32 (Nat.xor 4294967295 (cBytes l (Nat.xor 4294967295 c)) : Nat))))
   | none => none
  else none
 | _ => none
/-- What reads no memory and turns none. -/
def evPure (A : Fr) (o : Oper) : Option AV :=
 match o.op with
 | .move x | .assign x => evA A x
 | .pick c x y => match evA A c with
   | some (.v (.one (.b true))) => evA A x
   | some (.v (.one (.b false))) => evA A y
   | _ => none
 | .build t ps => match allSome (fun p => (evA A p.2).map fun v => (p.1, v)) ps.toList with
   | some qs => evBuild P t qs
   | none => none
 | .nilCheck x => match evA A x with
   | some (.v (.one (.p k q))) => some (.v (.one (.p k q)))
   | _ => none
 | .binOp op t x y _ => (evA A x).bind fun a => (evA A y).bind fun b => match a, b with
   | .v (.one .nili), .v (.one .nili) => if Region.isConst x || Region.isConst y then match op, P.underlying t with
      | .eql, some (.interface _) => some (.v (.one (.b true)))
      | .neq, some (.interface _) => some (.v (.one (.b false)))
      | _, _ => none
     else none
   | _, _ => evBin P op t a b
 | .unOp op _ x => (evA A x).bind fun a => evUn op a
 | .convert s d x => (evA A x).bind fun a => evConvP P s d a
 | .slice t x lo hi mx =>
   match evA A x, lo.map (evA A), hi.map (evA A), mx.map (evA A) with
   | some v, some none, _, _ | some v, _, some none, _ | some v, _, _, some none => none
   | some v, a, b, c => evSlice P t v a.join b.join c.join
   | none, _, _, _ => none
 | .fieldAddr s x f => match evA A x, fieldOff P s f with
   | some (.v (.one (.p k q))), some (d, ty) => match sizeT P ty with
      | some (Nat.succ _) => some (.v (.one (.p k (q + d))))
      | _ => none
   | _, _ => none
 | .field t x f => (evA A x).bind fun v => evField P t v f
 | .indexAddr t x i => (evA A x).bind fun a => (evA A i).bind fun b => evIndexAddr P t a b
 | .index t x i => (evA A x).bind fun a => (evA A i).bind fun b => evIndex P t a b
 | .extract x i => match evA A x with
   | some (.tup l) => (l[i]?).map .v
   | _ => none
 | .call c => match c.callee, allSome (evA A) c.args.toList, c.argTypes.toList with
   | .builtin .len, some [x], t :: _ => evLenP P t x
   | .builtin .max, some xs, _ => foldMM (fun a b => if a < b then b else a) xs
   | .builtin .min, some xs, _ => foldMM (fun a b => if b < a then b else a) xs
   | _, _, _ => none
 | _ => none
/-- What reads memory and turns none: the value. -/
def evRead (A : Fr) (h : Hp) (o : Oper) : Option AV :=
 match o.op with
 | .load t x => (evA A x).bind fun v => evLoad P t v h
 | .lookup t x i ok => (evA A x).bind fun a => (evA A i).bind fun b => evLookup P h t a b ok
 | .entry x => (evA A x).bind fun a => evEntry h a
 | .typeAssert x _ want ok => (evA A x).bind fun a => evAssert P h a want ok
 | .call c => match c.callee, allSome (evA A) c.args.toList, c.argTypes.toList with
   | .builtin .len, some [x], t :: _ => evLenM P h t x
   | _, _, _ => none
 | _ => none
/-- What turns memory. -/
def evEff (A : Fr) (h : Hp) (o : Oper) : Option (AV × List U) :=
 match o.op with
 | .alloc e => match zeroT P e with
   | some z => if sizeT P e = some z.cells.length then evNew h e z else none
   | none => none
 | .box e x => match evA A x with
   | some (.v v) => evNew h e v
   | _ => none
 | .buildSlice t n ps => match allSome (fun p => (evA A p.2).map fun v => (p.1, v)) ps.toList with
   | some qs => evBuildSlice P h t n qs
   | none => none
 | .store t x y => (evA A x).bind fun a => (evA A y).bind fun b => (evStore P t a b h).map fun us => (undefA, us)
 | .convert s d x => (evA A x).bind fun a => evConvM P h s d a
 | .makeFunc (.func f) first caps => if first.size = 0 ∧ h.n < 2 ^ D ∧ f < 65536 then
     match allSome (evA A) caps.toList with
     | some vs => (allSome asV2 vs).map fun ws => (.v (.one (.clo h.n)), [.new (.clo f ws)])
     | none => none
    else if caps.size = 0 ∧ h.n < 2 ^ D ∧ f < 65536 then
     match allSome (evA A) first.toList with
     | some vs => (allSome asV2 vs).map fun ws => (.v (.one (.clo h.n)), [.new (.clo (mkB f) ws)])
     | none => none
    else none
 | .makeMap t none => if h.n < 2 ^ D then some (.v (.one (.m h.n)), [.new (.map [] 0)]) else none
 | .makeSlice t l c => (evA A l).bind fun a => (evA A c).bind fun b => evMakeSlice P h t a b
 | .makeInterface t x => (evA A x).bind fun a => evMakeIface P h t a
 | .mapUpdate T m k v | .insert T m k v => (evA A m).bind fun a => (evA A k).bind fun b => (evA A v).bind fun c => (evMapUpdate P h T a b c).map fun us => (undefA, us)
 | .range t x => (evA A x).bind fun a => evRange P h t a
 | .next x s => (evA A x).bind fun a => evNext h a s
 | .call c => match c.callee, allSome (evA A) c.args.toList, c.argTypes.toList with
   | .builtin .append, some [s, x], [t, u] => evAppend P h t u s x
   | .builtin .copy, some [d, x], t :: _ => evCopy P h t d x
   | .builtin .clear, some [x], t :: _ => (evClear P h t x).map fun us => (.tup [], us)
   | .builtin .delete, some [x, k], t :: _ => (evDelete P h t x k).map fun us => (.tup [], us)
   | _, _, _ => none
 | _ => none
/-- A call of a function of the program's: which, of what. -/
def evEnter (A : Fr) (h : Hp) (o : Oper) : Option (Nat × List AV) :=
 match o.op with
 | .call c => match c.callee, allSome (evA A) c.args.toList with
   | .value f, some xs => match evA A f with
     | some (.v (.one (.f g))) => some (g, xs)
     | some (.v (.one (.clo k))) => match h.get k with
       | some (.clo g caps) => bif isB g then some (unB g, caps.map .v ++ xs) else some (g, xs ++ caps.map .v)
       | _ => none
     | _ => none
   | _, _ => none
 | _ => none
/-- The cells that a load (or a text made of bytes) reads: what is made of them (0: one value, 1: a struct or a row, 2: a text); block, offset, how many. -/
def evSpot (A : Fr) (o : Oper) : Option (Nat × Nat × Nat × Nat) :=
 match o.op with
 | .load t x => match evA A x, isAggT P t, sizeT P t with
   | some (.v (.one (.p k q))), some false, _ => some (0, k, q, 1)
   | some (.v (.one (.p k q))), some true, some n => some (1, k, q, n)
   | _, _, _ => none
 | .convert s d x => match evA A x, P.underlying s, P.underlying d with
   | some (.v (.one (.sl k q n _))), some (.slice e), some .string => match P.underlying e with
     | some (.int .u8) => some (2, k, q, n)
     | _ => none
   | _, _, _ => none
 | _ => none
end
end Go.Ev
namespace Go.Ev
open Go Go.RowKit
variable [Sy]
/-- A frame by names stands for an activation. -/
structure AR (E : List Ent) (A : Fr) (n : Nat) (a : Act) : Prop where
 size : a.tmps.size = n
 le : n ≤ 256
 defers : a.defers = []
 get : ∀ (t : Nat) (x : AV), t < 256 → Tr.get DT A t = some x → ∃ v, a.tmps[t]? = some v ∧ VV E x v
theorem bytes_self (s : ByteArray) : bytes (s.data.toList.map UInt8.toNat) = s := by
 unfold bytes
 rw [List.map_map]
 have : (UInt8.ofNat ∘ UInt8.toNat) = id := by funext x; simp
 rw [this, List.map_id]
theorem asA1_ok {E : List Ent} : ∀ (v : Value) (x : A1), asA1 v = some x → V1 E x v := by
 intro v x h
 unfold asA1 at h
 split at h <;> first
 | (injection h with h; subst h; first | rfl | exact ⟨(congrArg Value.string (bytes_self _)).symm, fun c hc => by obtain ⟨u, _, rfl⟩ := List.mem_map.1 hc; exact UInt8.toNat_lt u⟩)
 | (split at h
    · rename_i f first caps hc
      injection h with h
      subst h
      have h1 : first = #[] := Array.size_eq_zero_iff.1 hc.1
      have h2 : caps = #[] := Array.size_eq_zero_iff.1 hc.2
      subst h1; subst h2
      rfl
    · cases h)
 | cases h
theorem allSome_ok {α β γ : Type} {f : α → Option β} {R : β → γ → Prop} {g : α → γ} (hf : ∀ a b, f a = some b → R b (g a)) : ∀ (l : List α) (m : List β), allSome f l = some m → All2 R m (l.map g)
 | [], m, h => by
  cases h
  trivial
 | a :: l, m, h => by
  unfold allSome at h
  cases h1 : f a with
  | none => rw [h1] at h; cases h
  | some b =>
   cases h2 : allSome f l with
   | none => rw [h1, h2] at h; cases h
   | some m' =>
    rw [h1, h2] at h
    cases h
    exact ⟨hf a b h1, allSome_ok hf l m' h2⟩
theorem asA2_ok {E : List Ent} (v : Value) (x : A2) (h : asA2 v = some x) : V2 E x v := by
 unfold asA2 at h
 split at h
 · rename_i cs
   cases h1 : allSome asA1 cs.toList with
   | none => rw [h1] at h; cases h
   | some l =>
    rw [h1] at h
    cases h
    have := allSome_ok (R := V1 E) (g := fun v => v) (fun a b hab => asA1_ok a b hab) cs.toList l h1
    rw [List.map_id'] at this
    exact ⟨cs.toList, this, rfl⟩
 · cases h1 : asA1 v with
   | none => rw [h1] at h; cases h
   | some y =>
    rw [h1] at h
    cases h
    exact asA1_ok v y h1
theorem undef_ok {E : List Ent} : VV E undefA undef := ⟨[], trivial, rfl⟩
theorem asAV_ok {E : List Ent} (v : Value) (x : AV) (h : asAV v = some x) : VV E x v := by
 unfold asAV at h
 split at h
 · split at h
   · rename_i vs hc
     cases h
     have : vs = #[] := Array.size_eq_zero_iff.1 hc
     subst this
     exact ⟨[], trivial, rfl⟩
   · cases h
 · cases h1 : asA2 v with
   | none => rw [h1] at h; cases h
   | some y =>
    rw [h1] at h
    cases h
    exact asA2_ok v y h1
section
variable {E : List Ent} {A : Fr} {n : Nat} {a : Act}
theorem evA_ok (hr : AR E A n a) : ∀ (x : Operand) (y : AV), evA A x = some y → VV E y (a.eval x)
 | .tmp t, y, h => by
  have h : (bif Nat.blt t 256 then Tr.get DT A t else none) = some y := h
  cases hb : Nat.blt t 256 with
  | false => rw [hb] at h; cases h
  | true =>
   rw [hb] at h
   have ht : t < 256 := by
    have h1 : Nat.ble (t + 1) 256 = true := hb
    exact Nat.le_of_ble_eq_true h1
   obtain ⟨v, hv, hvv⟩ := hr.get t y ht h
   show VV E y (a.tmps.getD t undef)
   rw [Array.getD_eq_getD_getElem?, hv]
   exact hvv
 | .const v, y, h => asAV_ok v y h
 | .func f, y, h => by
  cases h
  rfl
 | .global g, y, h => by cases h
variable {P : Program}
/-- What a pure operation's proof shows. -/
def Gives (P : Program) (E : List Ent) (a : Act) (o : Oper) (y : AV) : Prop := ∃ v, VV E y v ∧ ∀ w, (execOp a.eval o).run P w = .ok (.value v) w
theorem VV.bool {E : List Ent} {x : Bool} {v : Value} (h : VV E (.v (.one (.b x))) v) : v = .bool x := h
theorem VV.int {E : List Ent} {k : IntKind} {n : Int} {v : Value} (h : VV E (.v (.one (.i k n))) v) : v = .int k n := h
theorem VV.str {E : List Ent} {l : List Nat} {v : Value} (h : VV E (.v (.one (.s l))) v) : v = .string (bytes l) ∧ ∀ c ∈ l, c < 256 := h
theorem gives_move (hr : AR E A n a) {o : Oper} {x : Operand} {y : AV} (ho : o.op = .move x ∨ o.op = .assign x) (h : evA A x = some y) : Gives P E a o y :=
 ⟨a.eval x, evA_ok hr x y h, fun w => by rcases ho with ho | ho <;> simp [execOp, ho]⟩
theorem gives_pick (hr : AR E A n a) {o : Oper} {c x z : Operand} {y : AV} {b : Bool} (ho : o.op = .pick c x z) (hc : evA A c = some (.v (.one (.b b)))) (h : evA A (if b then x else z) = some y) : Gives P E a o y := by
 have h1 := VV.bool (evA_ok hr c _ hc)
 refine ⟨a.eval (if b then x else z), evA_ok hr _ y h, fun w => ?_⟩
 cases b <;> simp [execOp, ho, h1, asBool]
theorem gives_extract (hr : AR E A n a) {o : Oper} {x : Operand} {i : Nat} {l : List A2} {y : A2} (ho : o.op = .extract x i) (hx : evA A x = some (.tup l)) (h : l[i]? = some y) : Gives P E a o (.v y) := by
 obtain ⟨vs, hvs, he⟩ := evA_ok hr x _ hx
 obtain ⟨v, hv, hvv⟩ := hvs.get i y h
 exact ⟨v, hvv, fun w => by simp [execOp, ho, he, Instr.extract, hv]⟩
theorem gives_nil (hr : AR E A n a) {o : Oper} {x : Operand} {y : AV} (ho : o.op = .nilCheck x) (h : evA A x = some y) (hy : (∃ k q, y = .v (.one (.p k q))) ∨ (∃ q, y = .v (.one (.f q)))) : Gives P E a o y := by
 have h1 := evA_ok hr x y h
 refine ⟨a.eval x, h1, fun w => ?_⟩
 rcases hy with ⟨k, q, rfl⟩ | ⟨q, rfl⟩
 · obtain ⟨b, c, _, he⟩ := h1
   simp [execOp, ho, he]
 · have he : a.eval x = .func (.func q) #[] #[] := h1
   simp [execOp, ho, he]
theorem gives_un (hr : AR E A n a) {o : Oper} {op : UnOp} {t : TypeId} {x : Operand} {z y : AV} (ho : o.op = .unOp op t x) (hx : evA A x = some z) (h : evUn op z = some y) : Gives P E a o y := by
 have h1 := evA_ok hr x z hx
 unfold evUn at h
 split at h
 · cases h
   have he := VV.bool h1
   exact ⟨_, rfl, fun w => by simp [execOp, ho, he, Op.unary]⟩
 · cases h
   have he := VV.int h1
   refine ⟨_, rfl, fun w => ?_⟩
   simp [execOp, ho, he, Op.unary, Op.intBits, bitsI]
 · cases h
/-! ### Two operands -/
theorem bitsI_and (k : IntKind) (x y : Int) : k.wrap ((BitVec.ofInt k.bits x &&& BitVec.ofInt k.bits y).toNat : Int) = bitsI (· &&& ·) k x y := by simp [bitsI]
theorem bitsI_or (k : IntKind) (x y : Int) : k.wrap ((BitVec.ofInt k.bits x ||| BitVec.ofInt k.bits y).toNat : Int) = bitsI (· ||| ·) k x y := by simp [bitsI]
theorem bitsI_xor (k : IntKind) (x y : Int) : k.wrap ((BitVec.ofInt k.bits x ^^^ BitVec.ofInt k.bits y).toNat : Int) = bitsI (· ^^^ ·) k x y := by simp [bitsI]
theorem bin_int {k k' : IntKind} {x y : Int} {op : BinOp} {t : TypeId} {r : AV} (h : evBin P op t (.v (.one (.i k x))) (.v (.one (.i k' y))) = some r) : ∃ v, VV E r v ∧ ∀ w, (binOp op t (.int k x) (.int k' y)).run P w = .ok v w := by
 cases op <;> simp only [evBin, cmpI] at h
 all_goals first
 | (split at h
    · first
      | (subst_vars
         cases h
         refine ⟨_, rfl, fun w => ?_⟩
         simp [binOp, Op.intArith, Op.intCmp, Op.intBits, bitsI, Op.intDiv, *]
         done)
      | (split at h
         · cases h
         · subst_vars
           cases h
           refine ⟨_, rfl, fun w => ?_⟩
           simp [binOp, Op.intDiv, *]
           done)
      | (cases h
         refine ⟨_, rfl, fun w => ?_⟩
         have hn : ¬ y < 0 := by omega
         simp [binOp, Op.shift, hn]
         done)
    · cases h)
 | (split at h <;> simp at h)
 | simp at h
theorem bytes_size (l : List Nat) : (bytes l).size = l.length := by
 show (l.map UInt8.ofNat).toArray.size = l.length
 simp
theorem lt256 {l : List Nat} (h : l.all (fun c => Nat.blt c 256) = true) : ∀ c ∈ l, c < 256 := fun c hc => Nat.le_of_ble_eq_true (List.all_eq_true.1 h c hc)
theorem u8_inj {c d : Nat} (hc : c < 256) (hd : d < 256) (h : UInt8.ofNat c = UInt8.ofNat d) : c = d := by
 have := congrArg UInt8.toNat h
 simp at this
 omega
theorem map_inj : ∀ {l m : List Nat}, (∀ c ∈ l, c < 256) → (∀ c ∈ m, c < 256) → l.map UInt8.ofNat = m.map UInt8.ofNat → l = m
 | [], [], _, _, _ => rfl
 | [], _ :: _, _, _, h => by simp at h
 | _ :: _, [], _, _, h => by simp at h
 | a :: l, b :: m, hl, hm, h => by
  simp only [List.map_cons, List.cons.injEq] at h
  rw [u8_inj (hl a List.mem_cons_self) (hm b List.mem_cons_self) h.1, map_inj (fun c hc => hl c (List.mem_cons_of_mem _ hc)) (fun c hc => hm c (List.mem_cons_of_mem _ hc)) h.2]
theorem toList_bytes (l : List Nat) : (bytes l).toList = l.map UInt8.ofNat := by
 rw [ByteArray.toList_eq]
 simp [bytes]
theorem beq_map {l m : List Nat} (hl : ∀ c ∈ l, c < 256) (hm : ∀ c ∈ m, c < 256) : (l.map UInt8.ofNat == m.map UInt8.ofNat) = (l == m) := by
 by_cases h : l = m
 · subst h; simp
 · have h1 : ¬ l.map UInt8.ofNat = m.map UInt8.ofNat := fun e => h (map_inj hl hm e)
   rw [beq_eq_false_iff_ne.2 h1, beq_eq_false_iff_ne.2 h]
theorem less_map : ∀ {l m : List Nat}, (∀ c ∈ l, c < 256) → (∀ c ∈ m, c < 256) → Op.bytesLess (l.map UInt8.ofNat) (m.map UInt8.ofNat) = lessL l m
 | [], [], _, _ => rfl
 | _ :: _, [], _, _ => rfl
 | [], _ :: _, _, _ => rfl
 | a :: l, b :: m, hl, hm => by
  have ha := hl a List.mem_cons_self
  have hb := hm b List.mem_cons_self
  have h1 : (UInt8.ofNat a < UInt8.ofNat b) ↔ a < b := by
   rw [UInt8.lt_iff_toNat_lt]
   simp
   omega
  have h2 : (UInt8.ofNat a == UInt8.ofNat b) = (a == b) := by
   by_cases e : a = b
   · subst e; simp
   · rw [beq_eq_false_iff_ne.2 (fun e2 => e (u8_inj ha hb e2)), beq_eq_false_iff_ne.2 e]
  have h3 := less_map (fun c hc => hl c (List.mem_cons_of_mem _ hc)) (fun c hc => hm c (List.mem_cons_of_mem _ hc))
  simp only [List.map_cons, Op.bytesLess, lessL, h2, h3]
  congr 1
  simp [h1]
theorem bytes_append (l m : List Nat) : bytes (l ++ m) = bytes l ++ bytes m := by
 apply ByteArray.ext
 simp [bytes]
theorem bin_str {l m : List Nat} {op : BinOp} {t : TypeId} {r : AV} (hl : ∀ c ∈ l, c < 256) (hm : ∀ c ∈ m, c < 256) (h : evBin P op t (.v (.one (.s l))) (.v (.one (.s m))) = some r) : ∃ v, VV E r v ∧ ∀ w, (binOp op t (.string (bytes l)) (.string (bytes m))).run P w = .ok v w := by
 have e1 := toList_bytes l
 have e2 := toList_bytes m
 have e3 := beq_map hl hm
 have e4 := less_map hl hm
 cases op <;> simp only [evBin] at h
 case add =>
  split at h
  · rename_i hlen
    cases h
    refine ⟨_, ⟨rfl, fun c hc => ?_⟩, fun w => ?_⟩
    · rcases List.mem_append.1 hc with hc | hc
      · exact hl c hc
      · exact hm c hc
    · have : ¬ (((bytes l).size + (bytes m).size : Nat) : Int) > IntKind.i64.max := by
       rw [bytes_size, bytes_size]
       have : IntKind.i64.max = 9223372036854775807 := by decide
       omega
      simp only [binOp, Op.stringOp]
      rw [if_neg this, bytes_append]
      rfl
  · cases h
 all_goals first
 | (cases h
    refine ⟨_, rfl, fun w => ?_⟩
    simp only [binOp, Op.stringOp, e1, e2, e3, e4]
    rfl)
 | cases h
end
end Go.Ev
namespace Go.Ev
open Go Go.RowKit
variable [Sy]
section
variable {E : List Ent} {A : Fr} {n : Nat} {a : Act} {P : Program}
theorem eqGuard_run {op : BinOp} {t : TypeId} {x y : Operand} {v u : Value} (h1 : v = .nilIface → u = .nilIface → False) (h2 : ∀ p q, v = .agg p → u = .agg q → False) (w : World) : (eqGuard op t x y v u).run P w = .ok () w := by
 have g1 : ∀ b : Bool, b = true → ∀ (m : Sem Unit), (if (!b) = true then pure () else m) = m := by
  intro b hb m
  subst hb
  rfl
 have g2 : ∀ b : Bool, b = false → ∀ (m : Sem Unit), (if (!b) = true then pure () else m) = pure () := by
  intro b hb m
  subst hb
  rfl
 unfold eqGuard
 cases op <;> first
 | (rw [g2 _ rfl]
    rfl)
 | (rw [g1 _ rfl]
    split
    · exact (h1 rfl rfl).elim
    · exact (h2 _ _ rfl rfl).elim
    · rfl)
theorem equal_run {t : TypeId} {v u : Value} {r : Bool} (h : ∀ w, (Op.equalIn (9999 + 1) t v u).run P w = .ok r w) (w : World) : (Op.equal t v u).run P w = .ok r w := h w
theorem eq_ok {t : TypeId} {p q : A1} {r : Bool} (h : evEq P t p q = some r) {v u : Value} (hv : V1 E p v) (hu : V1 E q u) :
  (∀ w, (Op.equal t v u).run P w = .ok r w) := by
 unfold evEq at h
 split at h
 all_goals first
 | (cases h; done)
 | skip
 all_goals (rename_i hut; injection h with h; subst h)
 all_goals refine fun w => equal_run (fun w => ?_) w
 all_goals simp only [V1] at hv hu
 all_goals first
 | (obtain ⟨_, _, _, rfl⟩ := hu; subst hv)
 | (obtain ⟨_, _, _, rfl⟩ := hv; subst hu)
 | (obtain ⟨_, _, _, rfl, _⟩ := hv; subst hu)
 | (obtain ⟨_, _, rfl⟩ := hv; subst hu)
 | (obtain ⟨_, _, rfl⟩ := hu; subst hv)
 | (subst hv; subst hu)
 all_goals (unfold Op.equalIn; simp only [Sem.run_bind, run_underlying hut])
 all_goals rfl

theorem eq_not_nil {t : TypeId} {p q : A1} {r : Bool} (h : evEq P t p q = some r) {v u : Value} (hv : V1 E p v) (hu : V1 E q u) : (v = .nilIface → u = .nilIface → False) ∧ (∀ x y, v = .agg x → u = .agg y → False) := by
 refine ⟨fun h1 h2 => ?_, fun x y h1 h2 => ?_⟩
 · subst h1; subst h2
   cases p <;> simp only [V1] at hv <;> first
   | (cases hv; done)
   | (obtain ⟨_, _, _, hv⟩ := hv; cases hv; done)
   | (obtain ⟨_, _, _, hv, _⟩ := hv; cases hv; done)
   | (obtain ⟨_, _, hv⟩ := hv; cases hv; done)
   | (obtain ⟨hv, _⟩ := hv; cases hv; done)
   | skip
   all_goals (cases q <;> simp only [V1] at hu <;> first
   | (cases hu; done)
   | (obtain ⟨_, _, _, hu⟩ := hu; cases hu; done)
   | (obtain ⟨_, _, _, hu, _⟩ := hu; cases hu; done)
   | (obtain ⟨_, _, hu⟩ := hu; cases hu; done)
   | (obtain ⟨hu, _⟩ := hu; cases hu; done)
   | skip)
   all_goals (unfold evEq at h; split at h <;> first | (cases h; done) | skip)
   all_goals simp_all
 · have := V1.oneCell p v hv
   subst h1
   cases this
theorem bin_eq {t : TypeId} {p q : A1} {r : Bool} (h : evEq P t p q = some r) {v u : Value} (hv : V1 E p v) (hu : V1 E q u) (w : World) :
  (binOp .eql t v u).run P w = .ok (.bool r) w ∧ (binOp .neq t v u).run P w = .ok (.bool (!r)) w := by
 have key := eq_ok h hv hu w
 have hne : ∀ k n, v = .int k n → False := by
  intro k n e
  subst e
  cases p <;> simp only [V1] at hv <;> first
   | (cases hv; done)
   | (obtain ⟨_, _, _, hv⟩ := hv; cases hv; done)
   | (obtain ⟨_, _, _, hv, _⟩ := hv; cases hv; done)
   | (obtain ⟨_, _, hv⟩ := hv; cases hv; done)
   | (obtain ⟨hv, _⟩ := hv; cases hv; done)
   | skip
  all_goals (unfold evEq at h; split at h <;> first | (cases h; done) | skip)
  all_goals simp_all
 have hns : ∀ s, v = .string s → False := by
  intro k e
  subst e
  cases p <;> simp only [V1] at hv <;> first
   | (cases hv; done)
   | (obtain ⟨_, _, _, hv⟩ := hv; cases hv; done)
   | (obtain ⟨_, _, _, hv, _⟩ := hv; cases hv; done)
   | (obtain ⟨_, _, hv⟩ := hv; cases hv; done)
   | (obtain ⟨hv, _⟩ := hv; cases hv; done)
   | skip
  all_goals (unfold evEq at h; split at h <;> first | (cases h; done) | skip)
  all_goals simp_all
 have hnf : ∀ k n, v = .float k n → False := by
  intro k n e
  subst e
  cases p <;> simp only [V1] at hv <;> first
   | (cases hv; done)
   | (obtain ⟨_, _, _, hv⟩ := hv; cases hv; done)
   | (obtain ⟨_, _, _, hv, _⟩ := hv; cases hv; done)
   | (obtain ⟨_, _, hv⟩ := hv; cases hv; done)
   | (obtain ⟨hv, _⟩ := hv; cases hv; done)
   | skip
  all_goals (unfold evEq at h; split at h <;> first | (cases h; done) | skip)
  all_goals simp_all
 have hnc : ∀ k n m, v = .complex k n m → False := by
  intro k n m e
  subst e
  cases p <;> simp only [V1] at hv <;> first
   | (cases hv; done)
   | (obtain ⟨_, _, _, hv⟩ := hv; cases hv; done)
   | (obtain ⟨_, _, _, hv, _⟩ := hv; cases hv; done)
   | (obtain ⟨_, _, hv⟩ := hv; cases hv; done)
   | (obtain ⟨hv, _⟩ := hv; cases hv; done)
   | skip
  all_goals (unfold evEq at h; split at h <;> first | (cases h; done) | skip)
  all_goals simp_all
 cases v <;> first
 | (exact (hne _ _ rfl).elim)
 | (exact (hns _ rfl).elim)
 | (exact (hnf _ _ rfl).elim)
 | (exact (hnc _ _ _ rfl).elim)
 | (constructor <;> simp only [binOp, Sem.run_bind, key, Result.andThen_ok, Sem.run_pure])
end
end Go.Ev
