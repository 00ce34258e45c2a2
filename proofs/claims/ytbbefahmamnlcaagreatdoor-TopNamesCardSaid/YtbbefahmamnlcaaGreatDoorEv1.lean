/- A reckoner for closed runs: values and memory by names; what they stand for. -/
import Derived.RowKit
import Derived.WalkKit
import Derived.Calls
import Derived.Below
set_option linter.unusedVariables false
set_option linter.unusedSimpArgs false
set_option linter.unusedSectionVars false
namespace Go.Ev
open Go

/-- A capacity: known, or what is left of the block's own behind j elements. -/
inductive CapE where
 | ex (c : Nat)
 | un (j : Nat)
 deriving DecidableEq
/-- A value of one cell; blocks by names. -/
inductive A1 where
 | b (x : Bool)
 | i (k : IntKind) (n : Int)
 | s (x : List Nat)
 | nilp
 | p (k o : Nat)
 | nils
 | sl (k o n : Nat) (c : CapE)
 | stl (k o z a j : Nat)
 | nilm
 | m (k : Nat)
 | nili
 | nilf
 | f (fn : Nat)
 | clo (k : Nat)
 | ifc (t k : Nat)
 deriving DecidableEq
inductive A2 where
 | one (x : A1)
 | agg (l : List A1)
 deriving DecidableEq
inductive AV where
 | v (x : A2)
 | tup (l : List A2)
 deriving DecidableEq
/-- What a name stands for. -/
inductive Ent where
 | blk (b c : Nat)
 | clo (v : Value)
 | none
def bytes (l : List Nat) : ByteArray := ⟨(l.map UInt8.ofNat).toArray⟩
def capOf (c : Nat) : CapE → Nat
 | .ex n => n
 | .un j => c - j
def V1 (E : List Ent) : A1 → Value → Prop
 | .b x, v => v = .bool x
 | .i k n, v => v = .int k n
 | .s l, v => v = .string (bytes l) ∧ ∀ c ∈ l, c < 256
 | .nilp, v => v = .pointer none
 | .p k o, v => ∃ b c, E[k]? = some (.blk b c) ∧ v = .pointer (some ⟨b, o, none⟩)
 | .nils, v => v = .slice none 0 0
 | .sl k o n ce, v => ∃ b c, E[k]? = some (.blk b c) ∧ v = .slice (some ⟨b, o, none⟩) n (capOf c ce) ∧ n ≤ capOf c ce
 | .stl k o z a j, v => ∃ b c, E[k]? = some (.blk b c) ∧ v = .slice (some (if c - j = a then ⟨b, o, none⟩ else ⟨b, o + a * z, none⟩)) 0 (c - j - a)
 | .nilm, v => v = .map none
 | .m k, v => ∃ b c, E[k]? = some (.blk b c) ∧ v = .map (some b)
 | .nili, v => v = .nilIface
 | .nilf, v => v = .nilFunc
 | .f fn, v => v = .func (.func fn) #[] #[]
 | .clo k, v => E[k]? = some (.clo v) ∧ ∃ fn cs, v = .func (.func fn) #[] cs
 | .ifc t k, v => E[k]? = some (.clo v) ∧ ∃ x, v = .iface t x
/-- Two lists, element by element. -/
def All2 {α β : Type} (R : α → β → Prop) : List α → List β → Prop
 | [], [] => True
 | a :: as, b :: bs => R a b ∧ All2 R as bs
 | _, _ => False
def V2 (E : List Ent) : A2 → Value → Prop
 | .one x, v => V1 E x v
 | .agg l, v => ∃ cs : List Value, All2 (V1 E) l cs ∧ v = .agg cs.toArray
def VV (E : List Ent) : AV → Value → Prop
 | .v x, v => V2 E x v
 | .tup l, v => ∃ vs : List Value, All2 (V2 E) l vs ∧ v = .tuple vs.toArray

section
variable {α β : Type} {R R' : α → β → Prop}
theorem All2.length : ∀ {l : List α} {m : List β}, All2 R l m → l.length = m.length
 | [], [], _ => rfl
 | _ :: _, _ :: _, h => by simp [All2.length h.2]
theorem All2.imp (hr : ∀ a b, R a b → R' a b) : ∀ {l : List α} {m : List β}, All2 R l m → All2 R' l m
 | [], [], _ => trivial
 | _ :: _, _ :: _, h => ⟨hr _ _ h.1, All2.imp hr h.2⟩
theorem All2.get : ∀ {l : List α} {m : List β}, All2 R l m → ∀ (i : Nat) (a : α), l[i]? = some a → ∃ b, m[i]? = some b ∧ R a b
 | [], [], _, i, a, h => by simp at h
 | x :: l, y :: m, h, 0, a, ha => by
  simp only [List.getElem?_cons_zero, Option.some.injEq] at ha
  subst ha
  exact ⟨y, rfl, h.1⟩
 | x :: l, y :: m, h, i + 1, a, ha => by
  simp only [List.getElem?_cons_succ] at ha ⊢
  exact All2.get h.2 i a ha
theorem All2.set : ∀ {l : List α} {m : List β}, All2 R l m → ∀ (i : Nat) (a : α) (b : β), R a b → All2 R (l.set i a) (m.set i b)
 | [], [], _, _, _, _, _ => trivial
 | x :: l, y :: m, h, 0, a, b, hab => ⟨hab, h.2⟩
 | x :: l, y :: m, h, i + 1, a, b, hab => ⟨h.1, All2.set h.2 i a b hab⟩
theorem All2.append : ∀ {l : List α} {m : List β} {l' : List α} {m' : List β}, All2 R l m → All2 R l' m' → All2 R (l ++ l') (m ++ m')
 | [], [], _, _, _, h' => h'
 | _ :: _, _ :: _, _, _, h, h' => ⟨h.1, All2.append h.2 h'⟩
theorem All2.take : ∀ {l : List α} {m : List β}, All2 R l m → ∀ n, All2 R (l.take n) (m.take n)
 | [], [], _, n => by simp [All2]
 | _ :: _, _ :: _, _, 0 => trivial
 | _ :: _, _ :: _, h, n + 1 => ⟨h.1, All2.take h.2 n⟩
theorem All2.drop : ∀ {l : List α} {m : List β}, All2 R l m → ∀ n, All2 R (l.drop n) (m.drop n)
 | [], [], _, n => by simp [All2]
 | x :: l, y :: m, h, 0 => h
 | _ :: _, _ :: _, h, n + 1 => All2.drop h.2 n
theorem All2.replicate {a : α} {b : β} (h : R a b) : ∀ n, All2 R (List.replicate n a) (List.replicate n b)
 | 0 => trivial
 | n + 1 => ⟨h, All2.replicate h n⟩
theorem All2.map_ {γ δ : Type} {S : γ → δ → Prop} {f : γ → α} {g : δ → β} (hr : ∀ a b, S a b → R (f a) (g b)) : ∀ {l : List γ} {m : List δ}, All2 S l m → All2 R (l.map f) (m.map g)
 | [], [], _ => trivial
 | _ :: _, _ :: _, h => ⟨hr _ _ h.1, All2.map_ hr h.2⟩
theorem All2.mem : ∀ {l : List α} {m : List β}, All2 R l m → ∀ b ∈ m, ∃ a ∈ l, R a b
 | [], [], _, b, h => by simp at h
 | x :: l, y :: m, h, b, hb => by
  rcases List.mem_cons.1 hb with rfl | hb
  · exact ⟨x, List.mem_cons_self, h.1⟩
  · obtain ⟨a, ha, hr⟩ := All2.mem h.2 b hb
    exact ⟨a, List.mem_cons_of_mem _ ha, hr⟩
end
/-! ### More names -/
def Ext (E E' : List Ent) : Prop := E.length ≤ E'.length ∧ ∀ (k : Nat) (e : Ent), E[k]? = some e → e ≠ .none → E'[k]? = some e
theorem Ext.refl (E : List Ent) : Ext E E := ⟨Nat.le_refl _, fun _ _ h _ => h⟩
theorem Ext.trans {A B C : List Ent} (h : Ext A B) (k : Ext B C) : Ext A C := ⟨Nat.le_trans h.1 k.1, fun i e hi hn => k.2 i e (h.2 i e hi hn) hn⟩
theorem Ext.more (E t : List Ent) : Ext E (E ++ t) := ⟨by simp, fun k e hk _ => by rw [List.getElem?_append_left (List.getElem?_eq_some_iff.1 hk).1]; exact hk⟩
theorem Ext.one (E : List Ent) (e : Ent) : Ext E (E ++ [e]) := Ext.more E [e]
theorem Ext.fill (E : List Ent) (k : Nat) (e : Ent) (hk : E[k]? = some .none) : Ext E (E.set k e) := ⟨by simp, fun i f hi hn => by
 rw [List.getElem?_set]
 by_cases h : k = i
 · subst h
   rw [hk] at hi
   exact absurd (Option.some.inj hi).symm hn
 · rw [if_neg h]
   exact hi⟩
/-- All names of the one, and more. -/
def Pre (E E' : List Ent) : Prop := E.length ≤ E'.length ∧ ∀ k, k < E.length → E'[k]? = E[k]?
theorem Pre.refl (E : List Ent) : Pre E E := ⟨Nat.le_refl _, fun _ _ => rfl⟩
theorem Pre.trans {A B C : List Ent} (h : Pre A B) (k : Pre B C) : Pre A C := ⟨Nat.le_trans h.1 k.1, fun i hi => (k.2 i (Nat.lt_of_lt_of_le hi h.1)).trans (h.2 i hi)⟩
theorem Pre.more (E t : List Ent) : Pre E (E ++ t) := ⟨by simp, fun k hk => List.getElem?_append_left hk⟩
theorem Pre.one (E : List Ent) (e : Ent) : Pre E (E ++ [e]) := Pre.more E [e]
theorem Pre.ext {E E' : List Ent} (h : Pre E E') : Ext E E' := ⟨h.1, fun k e hk _ => (h.2 k (List.getElem?_eq_some_iff.1 hk).1).trans hk⟩
theorem Ext.blk {E E' : List Ent} (h : Ext E E') {k b c : Nat} (hk : E[k]? = some (.blk b c)) : E'[k]? = some (.blk b c) := h.2 k _ hk (by simp)
theorem Ext.clo {E E' : List Ent} (h : Ext E E') {k : Nat} {v : Value} (hk : E[k]? = some (.clo v)) : E'[k]? = some (.clo v) := h.2 k _ hk (by simp)
theorem V1.ext {E E' : List Ent} (h : Ext E E') : ∀ (x : A1) (v : Value), V1 E x v → V1 E' x v
 | .b _, _, hv | .i _ _, _, hv | .s _, _, hv | .nilp, _, hv | .nils, _, hv | .nilm, _, hv | .nili, _, hv | .nilf, _, hv | .f _, _, hv => hv
 | .p _ _, _, hv | .sl _ _ _ _, _, hv | .stl _ _ _ _ _, _, hv | .m _, _, hv => by
  obtain ⟨b, c, hk, hv⟩ := hv
  exact ⟨b, c, h.blk hk, hv⟩
 | .clo _, _, hv => ⟨h.clo hv.1, hv.2⟩
 | .ifc _ _, _, hv => ⟨h.clo hv.1, hv.2⟩
theorem V2.ext {E E' : List Ent} (h : Ext E E') : ∀ (x : A2) (v : Value), V2 E x v → V2 E' x v
 | .one _, _, hv => V1.ext h _ _ hv
 | .agg _, _, hv => by
  obtain ⟨cs, hc, hv⟩ := hv
  exact ⟨cs, hc.imp (V1.ext h), hv⟩
theorem VV.ext {E E' : List Ent} (h : Ext E E') : ∀ (x : AV) (v : Value), VV E x v → VV E' x v
 | .v _, _, hv => V2.ext h _ _ hv
 | .tup _, _, hv => by
  obtain ⟨cs, hc, hv⟩ := hv
  exact ⟨cs, hc.imp (V2.ext h), hv⟩
theorem V1.oneCell {E : List Ent} : ∀ (x : A1) (v : Value), V1 E x v → v.oneCell' = true
 | .b _, _, hv | .i _ _, _, hv | .nilp, _, hv | .nils, _, hv | .nilm, _, hv | .nili, _, hv | .nilf, _, hv | .f _, _, hv => by cases hv; rfl
 | .s _, _, hv => by cases hv.1; rfl
 | .p _ _, _, hv | .stl _ _ _ _ _, _, hv | .m _, _, hv => by
  obtain ⟨b, c, hk, hv⟩ := hv
  cases hv
  rfl
 | .sl _ _ _ _, _, hv => by
  obtain ⟨b, c, hk, hv, _⟩ := hv
  cases hv
  rfl
 | .clo _, _, hv => by
  obtain ⟨_, fn, cs, hv⟩ := hv
  cases hv
  rfl
 | .ifc _ _, _, hv => by
  obtain ⟨_, x, hv⟩ := hv
  cases hv
  rfl

/-! ### Memory -/
inductive AO where
 | cells (t : Nat) (l : List A1)
 | row (t z : Nat) (l : List A1)
 | map (es : List (A1 × A2 × Nat)) (clock : Nat)
 | iter (k : Nat) (since : Nat) (seen : List Nat) (last : Nat)
 | siter (s : List Nat) (pos : Nat)
 | clo (fn : Nat) (caps : List A2)
 | ifc (t : Nat) (x : A2)
 deriving DecidableEq
inductive Tr (α : Type) where
 | lf (o : Option α)
 | nd (l r : Tr α)
 deriving DecidableEq
section
variable {α : Type}
def Tr.get : Nat → Tr α → Nat → Option α
 | 0, .lf o, _ => o
 | d + 1, .nd l r, k => bif Nat.beq (k % 2) 0 then Tr.get d l (k / 2) else Tr.get d r (k / 2)
 | _, _, _ => none
def Tr.set : Nat → Tr α → Nat → Option α → Tr α
 | 0, _, _, o => .lf o
 | d + 1, .nd l r, k, o => bif Nat.beq (k % 2) 0 then .nd (Tr.set d l (k / 2) o) r else .nd l (Tr.set d r (k / 2) o)
 | d + 1, .lf _, k, o => bif Nat.beq (k % 2) 0 then .nd (Tr.set d (.lf none) (k / 2) o) (.lf none) else .nd (.lf none) (Tr.set d (.lf none) (k / 2) o)
theorem Tr.get_lf (d k : Nat) : Tr.get d (.lf none : Tr α) k = none := by cases d <;> rfl
theorem Tr.get_lf' (d k : Nat) (o : Option α) : Tr.get (d + 1) (.lf o) k = none := rfl
theorem Tr.get_nd (d k : Nat) (l r : Tr α) : Tr.get (d + 1) (.nd l r) k = bif Nat.beq (k % 2) 0 then Tr.get d l (k / 2) else Tr.get d r (k / 2) := rfl
theorem Tr.set_nd (d k : Nat) (l r : Tr α) (o : Option α) : Tr.set (d + 1) (.nd l r) k o = bif Nat.beq (k % 2) 0 then .nd (Tr.set d l (k / 2) o) r else .nd l (Tr.set d r (k / 2) o) := rfl
theorem Tr.set_lf (d k : Nat) (x o : Option α) : Tr.set (d + 1) (.lf x) k o = bif Nat.beq (k % 2) 0 then .nd (Tr.set d (.lf none) (k / 2) o) (.lf none) else .nd (.lf none) (Tr.set d (.lf none) (k / 2) o) := rfl
theorem Tr.get_same : ∀ (d : Nat) (t : Tr α) (k : Nat) (o : Option α), Tr.get d (Tr.set d t k o) k = o
 | 0, _, _, _ => rfl
 | d + 1, .nd l r, k, o => by
  rw [Tr.set_nd]
  cases h : Nat.beq (k % 2) 0
  · simp only [cond_false]
    rw [Tr.get_nd, h, cond_false]
    exact Tr.get_same d r (k / 2) o
  · simp only [cond_true]
    rw [Tr.get_nd, h, cond_true]
    exact Tr.get_same d l (k / 2) o
 | d + 1, .lf _, k, o => by
  rw [Tr.set_lf]
  cases h : Nat.beq (k % 2) 0
  · simp only [cond_false]
    rw [Tr.get_nd, h, cond_false]
    exact Tr.get_same d _ (k / 2) o
  · simp only [cond_true]
    rw [Tr.get_nd, h, cond_true]
    exact Tr.get_same d _ (k / 2) o
theorem beq_mod {k : Nat} : (Nat.beq (k % 2) 0 = true ↔ k % 2 = 0) := by simp [Nat.beq_eq]
theorem Tr.get_other : ∀ (d : Nat) (t : Tr α) (k j : Nat) (o : Option α), k < 2 ^ d → j < 2 ^ d → j ≠ k → Tr.get d (Tr.set d t k o) j = Tr.get d t j
 | 0, _, k, j, _, hk, hj, hne => by simp at hk hj; omega
 | d + 1, .nd l r, k, j, o, hk, hj, hne => by
  have hk2 : k / 2 < 2 ^ d := by rw [Nat.pow_succ] at hk; omega
  have hj2 : j / 2 < 2 ^ d := by rw [Nat.pow_succ] at hj; omega
  rw [Tr.set_nd]
  cases h : Nat.beq (k % 2) 0 <;> cases h2 : Nat.beq (j % 2) 0 <;> simp only [cond_false, cond_true, Tr.get_nd, h2]
  · refine Tr.get_other d r (k / 2) (j / 2) o hk2 hj2 ?_
    have a1 : ¬ k % 2 = 0 := fun e => by rw [beq_mod.2 e] at h; cases h
    have a2 : ¬ j % 2 = 0 := fun e => by rw [beq_mod.2 e] at h2; cases h2
    omega
  · refine Tr.get_other d l (k / 2) (j / 2) o hk2 hj2 ?_
    have a1 := beq_mod.1 h
    have a2 := beq_mod.1 h2
    omega
 | d + 1, .lf x, k, j, o, hk, hj, hne => by
  have hk2 : k / 2 < 2 ^ d := by rw [Nat.pow_succ] at hk; omega
  have hj2 : j / 2 < 2 ^ d := by rw [Nat.pow_succ] at hj; omega
  rw [Tr.get_lf', Tr.set_lf]
  cases h : Nat.beq (k % 2) 0 <;> cases h2 : Nat.beq (j % 2) 0 <;> simp only [cond_false, cond_true, Tr.get_nd, h2, Tr.get_lf]
  · rw [Tr.get_other d _ (k / 2) (j / 2) o hk2 hj2 (by
      have a1 : ¬ k % 2 = 0 := fun e => by rw [beq_mod.2 e] at h; cases h
      have a2 : ¬ j % 2 = 0 := fun e => by rw [beq_mod.2 e] at h2; cases h2
      omega), Tr.get_lf]
  · rw [Tr.get_other d _ (k / 2) (j / 2) o hk2 hj2 (by
      have a1 := beq_mod.1 h
      have a2 := beq_mod.1 h2
      omega), Tr.get_lf]
end
end Go.Ev
