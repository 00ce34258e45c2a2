/- A call that another theorem told of, over more memory than there: by trees. -/
import Derived.Test.YtbmdocjeepnhmaaGreatDoorExB12
import Derived.Test.YtbmdocjeepnhmaaGreatDoorExB10
set_option linter.unusedVariables false
set_option linter.unusedSimpArgs false
set_option linter.unusedSectionVars false
namespace Go.Ev
open Go Go.RowKit Go.Proofs
def Tr.lft {α : Type} : Tr α → Tr α
 | .nd l _ => l
 | .lf _ => .lf none
def Tr.rgt {α : Type} : Tr α → Tr α
 | .nd _ r => r
 | .lf _ => .lf none
def Tr.val {α : Type} : Tr α → Option α
 | .lf o => o
 | .nd _ _ => none
theorem get_zero {α : Type} (t : Tr α) (k : Nat) : Tr.get 0 t k = t.val := by cases t <;> rfl
theorem get_succ {α : Type} (d : Nat) (t : Tr α) (k : Nat) : Tr.get (d + 1) t k = bif Nat.beq (k % 2) 0 then Tr.get d t.lft (k / 2) else Tr.get d t.rgt (k / 2) := by
 cases t with
 | nd l r => rfl
 | lf o =>
  rw [Tr.get_lf']
  show none = bif _ then Tr.get d (.lf none) (k / 2) else Tr.get d (.lf none) (k / 2)
  rw [Tr.get_lf]
  cases Nat.beq (k % 2) 0 <;> rfl
/-- All of the one is in the other. -/
noncomputable def subT : Nat → Tr AO → Tr AO → Bool := fun d => Nat.rec (motive := fun _ => Tr AO → Tr AO → Bool)
 (fun a b => match a.val with | none => true | some o => match b.val with | some q => decide (o = q) | none => false)
 (fun _ ih a b => match a with
  | .lf _ => true
  | .nd l r => match b with
   | .lf _ => false
   | .nd l' r' => bif ih l l' then ih r r' else false) d
theorem subT_ok : ∀ (d : Nat) (a b : Tr AO), subT d a b = true → ∀ (k : Nat) (o : AO), Tr.get d a k = some o → Tr.get d b k = some o
 | 0, a, b, h, k, o, ho => by
  rw [get_zero] at ho ⊢
  have h : (match a.val with | none => true | some o => match b.val with | some q => decide (o = q) | none => false) = true := h
  rw [ho] at h
  simp only at h
  cases hb : b.val with
  | none => rw [hb] at h; cases h
  | some q =>
   rw [hb] at h
   rw [of_decide_eq_true h]
 | d + 1, .lf x, b, h, k, o, ho => by
  rw [Tr.get_lf'] at ho
  cases ho
 | d + 1, .nd l r, .lf x, h, k, o, ho => by
  have h : false = true := h
  cases h
 | d + 1, .nd l r, .nd l' r', h, k, o, ho => by
  have h : (bif subT d l l' then subT d r r' else false) = true := h
  cases h1 : subT d l l' with
  | false => rw [h1] at h; cases h
  | true =>
   rw [h1, cond_true] at h
   rw [Tr.get_nd] at ho ⊢
   cases hb : Nat.beq (k % 2) 0 with
   | true =>
    rw [hb, cond_true] at ho
    exact subT_ok d l l' h1 _ _ ho
   | false =>
    rw [hb, cond_false] at ho
    exact subT_ok d r r' h _ _ ho
/-- What the part became, and of the whole what was not in the part. -/
def mrgT : Nat → Tr AO → Tr AO → Tr AO → Tr AO
 | 0, h, s, s' => match s.val, h.val with
  | none, some o => .lf (some o)
  | _, _ => s'
 | d + 1, h, s, s' => match h with
  | .lf _ => s'
  | .nd l r => .nd (mrgT d l s.lft s'.lft) (mrgT d r s.rgt s'.rgt)
theorem mrgT_get : ∀ (d : Nat) (h s s' : Tr AO) (k : Nat), Tr.get d (mrgT d h s s') k = match Tr.get d s k, Tr.get d h k with
  | none, some o => some o
  | _, _ => Tr.get d s' k
 | 0, h, s, s', k => by
  simp only [get_zero]
  unfold mrgT
  cases s.val <;> cases h.val <;> simp [Tr.val]
 | d + 1, .lf x, s, s', k => by
  rw [Tr.get_lf']
  show Tr.get (d + 1) s' k = _
  cases Tr.get (d + 1) s k <;> rfl
 | d + 1, .nd l r, s, s', k => by
  show Tr.get (d + 1) (.nd (mrgT d l s.lft s'.lft) (mrgT d r s.rgt s'.rgt)) k = _
  rw [Tr.get_nd, Tr.get_nd, get_succ d s, get_succ d s']
  cases Nat.beq (k % 2) 0 with
  | true => simp only [cond_true]; exact mrgT_get d l _ _ _
  | false => simp only [cond_false]; exact mrgT_get d r _ _ _
noncomputable def mrgC {β : Type} : Nat → Tr AO → Tr AO → Tr AO → (Tr AO → β) → β := fun d => Nat.rec (motive := fun _ => Tr AO → Tr AO → Tr AO → (Tr AO → β) → β)
 (fun h s s' c => match s.val, h.val with
  | none, some o => c (.lf (some o))
  | _, _ => c s')
 (fun _ ih h s s' c => match h with
  | .lf _ => c s'
  | .nd l r => ih l s.lft s'.lft fun a => ih r s.rgt s'.rgt fun b => c (.nd a b)) d
theorem mrgC_eq {β : Type} : ∀ (d : Nat) (h s s' : Tr AO) (c : Tr AO → β), mrgC d h s s' c = c (mrgT d h s s')
 | 0, h, s, s', c => by
  show (match s.val, h.val with | none, some o => c (.lf (some o)) | _, _ => c s') = c (mrgT 0 h s s')
  unfold mrgT
  cases s.val <;> cases h.val <;> rfl
 | d + 1, .lf x, s, s', c => rfl
 | d + 1, .nd l r, s, s', c => by
  show (mrgC d l s.lft s'.lft fun a => mrgC d r s.rgt s'.rgt fun b => c (.nd a b)) = _
  rw [mrgC_eq d l, mrgC_eq d r]
  rfl
noncomputable def memoT (F : Nat) (X : List AV) (hs : Hp) (R : AV × Hp) (ex : CallT) : CallT := fun f xs h => bif Nat.beq f F then (bif Nat.beq hs.n h.n then (if xs = X then (bif subT D hs.t h.t then mrgC D h.t hs.t R.2.t (fun t => some (R.1, ⟨t, R.2.n⟩)) else ex f xs h) else ex f xs h) else ex f xs h) else ex f xs h
theorem frame_at {S : Sy} {z : Base} {E : List Ent} {h hs hs' h' : Hp} {w : World} {P : Program} {f : Nat} {y : AV} {vs : List Value} (hc : @Rep S (frBase z E h hs w) E hs w → @CallDoes S P (frBase z E h hs w) E f vs.toArray w y hs') (hp : Part h hs) (hm : Merged h hs hs' h') (hr : @Rep S z E h w) : @CallDoes S P z E f vs.toArray w y h' := by
 rcases hc (part_rep hr hp) with ⟨h1, h2⟩ | ⟨v, h1, h2, h3⟩
 · refine .inl ⟨h1, h2.mono ?_⟩
   rintro e w' ⟨v, rfl, E', g1, g2, g3⟩
   exact ⟨v, rfl, E', g1, merge_rep hr hp g1 g2 hm, g3⟩
 · exact .inr ⟨v, h1, h2, merge_rep hr hp (Pre.refl E) h3 hm⟩
theorem TabB.fr {S : Sy} {z : Base} {E : List Ent} {h hs : Hp} {w : World} (hT : TabB z) (hr : @Rep S z E h w) : TabB (frBase z E h hs w) := by
 have hk := @Rep.below S z E h w hr
 exact ⟨⟨Nat.lt_of_lt_of_le (z.lt 0 hT.1) hk.size, .inl hT.1⟩, hT.at hk⟩
theorem memoT_ok {S : Sy} {z : Base} {F : Nat} {X : List AV} {hs : Hp} {R : AV × Hp} {ex : CallT} {K : Hk} {n : Nat} (hT : TabB z) (h1 : ∀ z, TabB z → @HkOk S Tryz.prog z K) (h2 : chkM R (callG Tryz.prog K (evG Tryz.prog K n) F X hs) = true) (hf : freeB R.2 = true) (h3 : @CallOk S Tryz.prog z ex) : @CallOk S Tryz.prog z (memoT F X hs R ex) := by
 intro f xs h y h' hc E w vs hvs hr
 unfold memoT at hc
 cases hb : Nat.beq f F with
 | false =>
  rw [hb] at hc
  exact h3 f xs h y h' hc E w vs hvs hr
 | true =>
  obtain rfl := Nat.eq_of_beq_eq_true hb
  rw [hb, cond_true] at hc
  cases hn : Nat.beq hs.n h.n with
  | false =>
   rw [hn] at hc
   exact h3 f xs h y h' hc E w vs hvs hr
  | true =>
   rw [hn, cond_true] at hc
   have hne := Nat.eq_of_beq_eq_true hn
   split at hc
   · rename_i hx
     subst hx
     cases hpb : subT D hs.t h.t with
     | false =>
      rw [hpb] at hc
      exact h3 f xs h y h' hc E w vs hvs hr
     | true =>
      rw [hpb, cond_true, mrgC_eq] at hc
      have e := Option.some.inj hc
      injection e with e1 e2
      subst e1
      subst e2
      have hp : Part h hs := ⟨hne, fun k o _ ho => subT_ok D _ _ hpb k o ho⟩
      have hm : Merged h hs R.2 ⟨mrgT D h.t hs.t R.2.t, R.2.n⟩ := by
       refine ⟨rfl, fun k o hk ho hs0 => ?_, fun k hk hc => ?_⟩
       · have h5 := mrgT_get D h.t hs.t R.2.t k
         have a1 : Tr.get D hs.t k = none := hs0
         have a2 : Tr.get D h.t k = some o := ho
         rw [a1, a2] at h5
         exact h5
       · have h5 := mrgT_get D h.t hs.t R.2.t k
         rcases hc with hc | ⟨q, hc⟩
         · have a2 : Tr.get D h.t k = none := hc
           rw [a2] at h5
           refine h5.trans ?_
           cases Tr.get D hs.t k <;> rfl
         · have a1 : Tr.get D hs.t k = some q := hc
           rw [a1] at h5
           exact h5
      unfold chkM at h2
      split at h2
      · rename_i v h'' he
        rw [Bool.and_eq_true] at h2
        have e1 : v = R.1 := of_decide_eq_true h2.1
        subst e1
        refine frame_at (hs' := R.2) (fun hrz => ?_) hp hm hr
        exact (call_of S (h1 _ (hT.fr hr)) he E w vs hvs hrz).sub h2.2 hf
      · cases h2
   · exact h3 f xs h y h' hc E w vs hvs hr
end Go.Ev
