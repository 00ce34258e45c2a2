/- Memory by other names, and other letters. -/
import Derived.Test.YtbmdocjeepnhmaaGreatDoorExB5
import Derived.Test.YtbmdocjeepnhmaaGreatDoorExB4
import Derived.KernelRfl
set_option linter.unusedVariables false
set_option linter.unusedSimpArgs false
set_option linter.unusedSectionVars false
namespace Go.Ev
open Go Go.RowKit
/-- Another name. -/
def nmF (l : List (Nat × Nat)) (k : Nat) : Nat := match l with
 | [] => k
 | (a, b) :: r => bif Nat.beq a k then b else nmF r k
def letA (g : List (Nat × A1)) (a : Nat) : Option A1 := match g with
 | [] => none
 | (b, x) :: r => bif Nat.beq a b then some x else letA r a
section
variable (fl : List (Nat × Nat)) (N : Nat) (g : List (Nat × A1)) (ol : List (Nat × AO))
def nmB (k k' : Nat) : Bool := Nat.blt k N && Nat.beq (nmF fl k) k'
def capB : CapE → CapE → Bool
 | .ex a, .ex b => Nat.beq a b
 | .un a, .un b => Nat.beq a b
 | _, _ => false
/-- The one by the old names, the other by the new: (new, old). -/
def sim1 : A1 → A1 → Bool
 | .y a, x => decide (letA g a = some x)
 | .c 0, _ => true
 | .c (i + 1), .c j => Nat.beq (i + 1) j
 | .b x, .b y => x == y
 | .i k n, .i k' n' => decide (k = k') && decide (n = n')
 | .s x, .s y => eqL x y
 | .nilp, .nilp => true
 | .p k o, .p k' o' => nmB fl N k k' && Nat.beq o o'
 | .nils, .nils => true
 | .sl k o n c, .sl k' o' n' c' => nmB fl N k k' && Nat.beq o o' && Nat.beq n n' && capB c c'
 | .stl k o z a j, .stl k' o' z' a' j' => nmB fl N k k' && Nat.beq o o' && Nat.beq z z' && Nat.beq a a' && Nat.beq j j'
 | .nilm, .nilm => true
 | .m k, .m k' => nmB fl N k k'
 | .nili, .nili => true
 | .nilf, .nilf => true
 | .f a, .f b => Nat.beq a b
 | .clo k, .clo k' => nmB fl N k k'
 | .ifc t k, .ifc t' k' => Nat.beq t t' && nmB fl N k k'
 | _, _ => false
def simL {α β : Type} (p : α → β → Bool) : List α → List β → Bool
 | [], [] => true
 | a :: l, b :: m => p a b && simL p l m
 | _, _ => false
def sim2 : A2 → A2 → Bool
 | .one x, .one y => sim1 fl N g x y
 | .agg l, .agg m => simL (sim1 fl N g) l m
 | _, _ => false
def simE (a b : A1 × A2 × Nat) : Bool := sim1 fl N g a.1 b.1 && sim2 fl N g a.2.1 b.2.1 && Nat.beq a.2.2 b.2.2
def isBlk : AO → Bool
 | .clo _ _ => false
 | .ifc _ _ => false
 | _ => true
def simO : AO → AO → Bool
 | .y a, o => isBlk o && ol.any fun p => Nat.beq p.1 a && decide (p.2 = o)
 | .cells t l, .cells t' m => Nat.beq t t' && simL (sim1 fl N g) l m
 | .row t z l, .row t' z' m => Nat.beq t t' && Nat.beq z z' && simL (sim1 fl N g) l m
 | .map es c, .map fs d => simL (simE fl N g) es fs && Nat.beq c d
 | .mapx es, .map fs d => simL (fun (a : A1 × A2) (b : A1 × A2 × Nat) => sim1 fl N g a.1 b.1 && sim2 fl N g a.2 b.2.1) es fs
 | .mapx es, .mapx fs => simL (fun (a : A1 × A2) (b : A1 × A2) => sim1 fl N g a.1 b.1 && sim2 fl N g a.2 b.2) es fs
 | .clo f l, .clo f' m => Nat.beq f f' && simL (sim2 fl N g) l m
 | .ifc t x, .ifc t' y => Nat.beq t t' && sim2 fl N g x y
 | _, _ => false
/-- Each that is told of in the new is so in the old. -/
def simH (h2 h1 : Hp) : Bool := (List.range N).all fun k => match h2.get k with
 | none => true
 | some o => match h1.get (nmF fl k) with
   | some q => Nat.blt (nmF fl k) h1.n && simO fl N g ol o q
   | none => false
/-- The names that are told of, by the old names, are all different. -/
def nmsH (h2 : Hp) : List Nat := ((List.range N).filter fun k => (h2.get k).isSome).map (nmF fl)
def noDup : List Nat → Bool
 | [] => true
 | a :: l => !(l.any fun b => Nat.beq a b) && noDup l
end
theorem nmF_ok {l : List (Nat × Nat)} {k k' N : Nat} (h : nmB l N k k' = true) : k < N ∧ nmF l k = k' := by
 unfold nmB at h
 rw [Bool.and_eq_true] at h
 exact ⟨Nat.le_of_ble_eq_true h.1, Nat.eq_of_beq_eq_true h.2⟩
section
variable {fl : List (Nat × Nat)} {N : Nat} {g : List (Nat × A1)} {ol : List (Nat × AO)} {E1 E2 : List Ent} {S1 S2 : Sy}
/-- What the letters stand for, by the names. -/
def LetOk (S1 S2 : Sy) (E1 E2 : List Ent) (g : List (Nat × A1)) : Prop := (∀ i, S1.c i = S2.c i) ∧ ∀ (a : Nat) (x : A1), letA g a = some x → ∀ v, @V1 S1 E1 x v → @V1 S2 E2 (.y a) v
def NmOk (fl : List (Nat × Nat)) (N : Nat) (E1 E2 : List Ent) : Prop := ∀ k, k < N → E2[k]? = E1[nmF fl k]?
theorem capB_ok {c d : CapE} (h : capB c d = true) : c = d := by
 cases c <;> cases d <;> simp only [capB] at h <;> first | cases h | rw [Nat.eq_of_beq_eq_true h]
theorem sim1_ok (hn : NmOk fl N E1 E2) (hl : LetOk S1 S2 E1 E2 g) : ∀ (x y : A1), sim1 fl N g x y = true → ∀ v, @V1 S1 E1 y v → @V1 S2 E2 x v := by
 intro x y h v hv
 unfold sim1 at h
 split at h
 · rename_i a
   exact hl.2 a y (of_decide_eq_true h) v hv
 · exact @V1.oneCell S1 E1 y v hv
 · rename_i i j
   have h := Nat.eq_of_beq_eq_true h
   subst h
   have hv : v = S1.c i := hv
   rw [hl.1 i] at hv
   exact hv
 · rw [beq_iff_eq] at h
   subst h
   exact hv
 · rw [Bool.and_eq_true] at h
   obtain ⟨h1, h2⟩ := h
   have h1 := of_decide_eq_true h1
   have h2 := of_decide_eq_true h2
   subst h1; subst h2
   exact hv
 · rw [eqL_iff] at h
   subst h
   exact hv
 · exact hv
 · rw [Bool.and_eq_true] at h
   obtain ⟨h1, h2⟩ := h
   obtain ⟨h3, h4⟩ := nmF_ok h1
   have h2 := Nat.eq_of_beq_eq_true h2
   subst h2; subst h4
   obtain ⟨b, c, e1, e2⟩ := hv
   exact ⟨b, c, by rw [hn _ h3]; exact e1, e2⟩
 · exact hv
 · simp only [Bool.and_eq_true] at h
   obtain ⟨⟨⟨h1, h2⟩, h5⟩, h6⟩ := h
   obtain ⟨h3, h4⟩ := nmF_ok h1
   have h2 := Nat.eq_of_beq_eq_true h2
   have h5 := Nat.eq_of_beq_eq_true h5
   have h6 := capB_ok h6
   subst h2; subst h4; subst h5; subst h6
   obtain ⟨b, c, e1, e2⟩ := hv
   exact ⟨b, c, by rw [hn _ h3]; exact e1, e2⟩
 · simp only [Bool.and_eq_true] at h
   obtain ⟨⟨⟨⟨h1, h2⟩, h5⟩, h6⟩, h7⟩ := h
   obtain ⟨h3, h4⟩ := nmF_ok h1
   have h2 := Nat.eq_of_beq_eq_true h2
   have h5 := Nat.eq_of_beq_eq_true h5
   have h6 := Nat.eq_of_beq_eq_true h6
   have h7 := Nat.eq_of_beq_eq_true h7
   subst h2; subst h4; subst h5; subst h6; subst h7
   obtain ⟨b, c, e1, e2⟩ := hv
   exact ⟨b, c, by rw [hn _ h3]; exact e1, e2⟩
 · exact hv
 · obtain ⟨h3, h4⟩ := nmF_ok h
   subst h4
   obtain ⟨b, c, e1, e2⟩ := hv
   exact ⟨b, c, by rw [hn _ h3]; exact e1, e2⟩
 · exact hv
 · exact hv
 · have h := Nat.eq_of_beq_eq_true h
   subst h
   exact hv
 · obtain ⟨h3, h4⟩ := nmF_ok h
   subst h4
   obtain ⟨e1, e2⟩ := hv
   exact ⟨by rw [hn _ h3]; exact e1, e2⟩
 · rw [Bool.and_eq_true] at h
   obtain ⟨h1, h2⟩ := h
   obtain ⟨h3, h4⟩ := nmF_ok h2
   have h1 := Nat.eq_of_beq_eq_true h1
   subst h1; subst h4
   obtain ⟨e1, e2⟩ := hv
   exact ⟨by rw [hn _ h3]; exact e1, e2⟩
 · cases h
theorem simL_ok {α β γ : Type} {p : α → β → Bool} {R : β → γ → Prop} {S : α → γ → Prop} (hp : ∀ a b, p a b = true → ∀ v, R b v → S a v) : ∀ (l : List α) (m : List β) (vs : List γ), simL p l m = true → All2 R m vs → All2 S l vs
 | [], [], vs, _, h => by cases vs <;> exact h
 | a :: l, b :: m, [], h, hv => hv.elim
 | a :: l, b :: m, v :: vs, h, hv => by
  unfold simL at h
  rw [Bool.and_eq_true] at h
  exact ⟨hp a b h.1 v hv.1, simL_ok hp l m vs h.2 hv.2⟩
 | [], _ :: _, _, h, _ => by cases h
 | _ :: _, [], _, h, _ => by cases h
theorem simL_len {α β : Type} {p : α → β → Bool} : ∀ (l : List α) (m : List β), simL p l m = true → l.length = m.length
 | [], [], _ => rfl
 | _ :: l, _ :: m, h => by
  unfold simL at h
  rw [Bool.and_eq_true] at h
  simp [simL_len l m h.2]
 | [], _ :: _, h => by cases h
 | _ :: _, [], h => by cases h
theorem sim2_ok (hn : NmOk fl N E1 E2) (hl : LetOk S1 S2 E1 E2 g) (x y : A2) (h : sim2 fl N g x y = true) (v : Value) (hv : @V2 S1 E1 y v) : @V2 S2 E2 x v := by
 unfold sim2 at h
 split at h
 · exact sim1_ok hn hl _ _ h v hv
 · obtain ⟨cs, h1, h2⟩ := hv
   exact ⟨cs, simL_ok (sim1_ok hn hl) _ _ _ h h1, h2⟩
 · cases h
theorem simE_ok (hn : NmOk fl N E1 E2) (hl : LetOk S1 S2 E1 E2 g) (x y : A1 × A2 × Nat) (h : simE fl N g x y = true) (m : MapEntry) (hm : @ME S1 E1 y m) : @ME S2 E2 x m := by
 unfold simE at h
 simp only [Bool.and_eq_true] at h
 obtain ⟨⟨h1, h2⟩, h3⟩ := h
 exact ⟨sim1_ok hn hl _ _ h1 _ hm.1, sim2_ok hn hl _ _ h2 _ hm.2.1, hm.2.2.trans (Nat.eq_of_beq_eq_true h3).symm⟩
variable {w0 : Base} {w : World}
/-- What the objects that letters stand for hold. -/
def LetO (S1 S2 : Sy) (E1 E2 : List Ent) (w : World) (ol : List (Nat × AO)) : Prop := ∀ (p : Nat × AO), p ∈ ol → ∀ (b c : Nat), @Is S1 E1 c (w.heap[b]?) p.2 → @Is S2 E2 c (w.heap[b]?) (.y p.1)
theorem simO_ok (hn : NmOk fl N E1 E2) (hl : LetOk S1 S2 E1 E2 g) (ho : LetO S1 S2 E1 E2 w ol) {k : Nat} (hk : k < N) (x y : AO) (h : simO fl N g ol x y = true) (hy : @OK S1 E1 w (nmF fl k) y) : @OK S2 E2 w k x := by
 have hE := hn k hk
 unfold simO at h
 split at h
 · rename_i a
   rw [Bool.and_eq_true] at h
   obtain ⟨p, hp, h1⟩ := List.any_eq_true.1 h.2
   rw [Bool.and_eq_true] at h1
   have e1 := Nat.eq_of_beq_eq_true h1.1
   have e2 := of_decide_eq_true h1.2
   obtain ⟨bb, c, h2, h3⟩ : ∃ b c, E1[nmF fl k]? = some (.blk b c) ∧ @Is S1 E1 c w.heap[b]? y := by
    have hb := h.1
    cases y <;> first | (cases hb; done) | exact hy
   rw [← e2] at h3
   rw [← e1]
   exact ⟨bb, c, by rw [hE]; exact h2, ho p hp bb c h3⟩
 · rw [Bool.and_eq_true] at h
   have e1 := Nat.eq_of_beq_eq_true h.1
   subst e1
   obtain ⟨bb, c, h2, cs, fr, h3, h4, h5⟩ := hy
   exact ⟨bb, c, by rw [hE]; exact h2, cs, fr, h3, h4, simL_ok (sim1_ok hn hl) _ _ _ h.2 h5⟩
 · simp only [Bool.and_eq_true] at h
   obtain ⟨⟨h1, h2⟩, h3⟩ := h
   have e1 := Nat.eq_of_beq_eq_true h1
   have e2 := Nat.eq_of_beq_eq_true h2
   subst e1; subst e2
   obtain ⟨bb, c, g1, cs, fr, g2, g3, g4, g5, g6⟩ := hy
   refine ⟨bb, c, by rw [hE]; exact g1, cs, fr, g2, g3, g4, g5, ?_⟩
   rw [simL_len _ _ h3]
   exact simL_ok (sim1_ok hn hl) _ _ _ h3 g6
 · rw [Bool.and_eq_true] at h
   have e1 := Nat.eq_of_beq_eq_true h.2
   subst e1
   obtain ⟨bb, c, h2, ms, h3, h4⟩ := hy
   exact ⟨bb, c, by rw [hE]; exact h2, ms, h3, simL_ok (simE_ok hn hl) _ _ _ h.1 h4⟩
 · obtain ⟨bb, c, h2, ms, h3, h4⟩ := hy
   refine ⟨bb, c, by rw [hE]; exact h2, ms, _, h3, simL_ok (R := fun (b : A1 × A2 × Nat) m => @ME S1 E1 b m) (fun a b hab m hm => ?_) _ _ _ h h4⟩
   rw [Bool.and_eq_true] at hab
   exact ⟨sim1_ok hn hl _ _ hab.1 _ hm.1, sim2_ok hn hl _ _ hab.2 _ hm.2.1⟩
 · obtain ⟨bb, c, h2, ms, cl, h3, h4⟩ := hy
   refine ⟨bb, c, by rw [hE]; exact h2, ms, cl, h3, simL_ok (fun a b hab m hm => ?_) _ _ _ h h4⟩
   rw [Bool.and_eq_true] at hab
   exact ⟨sim1_ok hn hl _ _ hab.1 _ hm.1, sim2_ok hn hl _ _ hab.2 _ hm.2⟩
 · rw [Bool.and_eq_true] at h
   have e1 := Nat.eq_of_beq_eq_true h.1
   subst e1
   obtain ⟨cs, h2, h3⟩ := hy
   exact ⟨cs, by rw [hE]; exact h2, simL_ok (sim2_ok hn hl) _ _ _ h.2 h3⟩
 · rw [Bool.and_eq_true] at h
   have e1 := Nat.eq_of_beq_eq_true h.1
   subst e1
   obtain ⟨v, h2, h3⟩ := hy
   exact ⟨v, by rw [hE]; exact h2, sim2_ok hn hl _ _ h.2 _ h3⟩
 · cases h
theorem noDup_inj {f : Nat → Nat} : ∀ {l : List Nat}, noDup (l.map f) = true → ∀ a ∈ l, ∀ b ∈ l, f a = f b → a = b
 | [], _, a, ha, _, _, _ => by simp at ha
 | x :: l, h, a, ha, b, hb, he => by
  have h' : (!((l.map f).any fun b => Nat.beq (f x) b) && noDup (l.map f)) = true := h
  rw [Bool.and_eq_true, Bool.not_eq_true'] at h'
  have hno : ∀ c ∈ l, f x ≠ f c := fun c hc e => by
   have : ((l.map f).any fun b => Nat.beq (f x) b) = true := List.any_eq_true.2 ⟨f c, List.mem_map_of_mem hc, by rw [e]; simp⟩
   rw [this] at h'
   cases h'.1
  rcases List.mem_cons.1 ha with e1 | ha1 <;> rcases List.mem_cons.1 hb with e2 | hb1
  · rw [e1, e2]
  · rw [e1] at he
    exact absurd he (hno b hb1)
  · rw [e2] at he
    exact absurd he.symm (hno a ha1)
  · exact noDup_inj h'.2 a ha1 b hb1 he
/-- Memory by new names and new letters: what is told of is told of still. -/
theorem rep_rename {h1 h2 : Hp} (hr : @Rep S1 w0 E1 h1 w) (hlen : E2.length = h2.n) (hN : h2.n = N) (hb : N ≤ 2 ^ D) (hfree : ∀ k, N ≤ k → k < 2 ^ D → h2.get k = none)
  (hn : NmOk fl N E1 E2) (hl : LetOk S1 S2 E1 E2 g) (ho : LetO S1 S2 E1 E2 w ol) (hs : simH fl N g ol h2 h1 = true) (hd : noDup (nmsH fl N h2) = true) : @Rep S2 w0 E2 h2 w := by
 have hobj : ∀ k o, k < N → h2.get k = some o → ∃ q, h1.get (nmF fl k) = some q ∧ nmF fl k < h1.n ∧ simO fl N g ol o q = true := by
  intro k o hk hg
  have h3 := List.all_eq_true.1 hs k (List.mem_range.2 hk)
  simp only [hg] at h3
  cases hq : h1.get (nmF fl k) with
  | none => simp [hq] at h3
  | some q =>
   simp only [hq, Bool.and_eq_true] at h3
   exact ⟨q, rfl, Nat.le_of_ble_eq_true h3.1, h3.2⟩
 refine @Rep.mk S2 w0 E2 h2 w (@Rep.below S1 w0 E1 h1 w hr) hlen (by rw [hN]; exact hb) ?_ ?_ ?_ ?_
 · intro k o hk hg
   rw [hN] at hk
   obtain ⟨q, h3, h5, h4⟩ := hobj k o hk hg
   exact simO_ok hn hl ho hk o q h4 (@Rep.obj S1 w0 E1 h1 w hr _ q h5 h3)
 · intro k hk hkd
   rw [hN] at hk
   exact hfree k hk hkd
 · intro k k' o o' b c c' hk hk' hg hg' h3 h4
   rw [hN] at hk hk'
   obtain ⟨q, g1, g2, _⟩ := hobj k o hk hg
   obtain ⟨q', g1', g2', _⟩ := hobj k' o' hk' hg'
   rw [hn k hk] at h3
   rw [hn k' hk'] at h4
   have h5 := @Rep.sep S1 w0 E1 h1 w hr _ _ q q' b c c' g2 g2' g1 g1' h3 h4
   exact noDup_inj hd k (List.mem_filter.2 ⟨List.mem_range.2 hk, by rw [hg]; rfl⟩) k' (List.mem_filter.2 ⟨List.mem_range.2 hk', by rw [hg']; rfl⟩) h5
 · intro k o b c hk hg he
   rw [hN] at hk
   obtain ⟨q, g1, g2, _⟩ := hobj k o hk hg
   rw [hn k hk] at he
   exact @Rep.old S1 w0 E1 h1 w hr _ q b c g2 g1 he
end
end Go.Ev
namespace Go.Ev
open Go Go.RowKit Go.Proofs
def extOf (k : Nat) (h : Hp) (xs : List AV) : Option (AV × Hp) := (evExt k h xs).map fun y => (y, h)
/-- The functions that are known by what they do. -/
def exB : CallT := fun f xs h => bif Nat.beq f 238 then extOf 3 h xs else bif Nat.beq f 274 then extOf 1 h xs else bif Nat.beq f 327 then extOf 1 h xs else bif Nat.beq f 319 then extOf 2 h xs else none
variable [Sy]
section
variable {w0 : Base}
theorem extOf_ok {k : Nat} {h h' : Hp} {xs : List AV} {y : AV} (hx : extOf k h xs = some (y, h')) : evExt k h xs = some y ∧ h' = h := by
 unfold extOf at hx
 cases he : evExt k h xs with
 | none => simp [he] at hx
 | some z =>
  simp only [he, Option.map_some, Option.some.injEq, Prod.mk.injEq] at hx
  exact ⟨by rw [hx.1], hx.2.symm⟩
theorem more_ok {xs : List AV} {h : Hp} {y : AV} (hy : evExt 3 h xs = some y) {E : List Ent} {w : World} {vs : List Value} (hvs : All2 (VV E) xs vs) (hr : Rep w0 E h w) : CallDoes Tryz.prog w0 E 238 vs.toArray w y h := by
 unfold evExt at hy
 split at hy
 · split at hy
   · split at hy
     · simp [byteExt] at hy
     · cases hy
   · cases hy
 · rename_i c k o n cp
   split at hy
   · rename_i hk
     split at hy
     · rename_i l hl
       cases hy
       cases vs with
       | nil => exact hvs.elim
       | cons v vs =>
        cases vs with
        | nil => exact hvs.2.elim
        | cons u vs =>
         cases vs with
         | cons _ _ => exact hvs.2.2.elim
         | nil =>
          have hv : v = .int .u32 (c : Nat) := hvs.1
          subst hv
          obtain ⟨b, cc, hk1, rfl, hcap⟩ := hvs.2.1
          unfold byteL cellsIn at hl
          simp only at hl
          cases hg : h.get k with
          | none => simp [hg] at hl
          | some q =>
           cases hq : rowOf q with
           | none => simp [hg, hq] at hl
           | some cs =>
            simp only [hg, hq, Option.bind_some, Nat.mul_one] at hl
            cases hs : seg cs o n with
            | none => simp [hs] at hl
            | some m =>
             simp only [hs, Option.bind_some] at hl
             obtain ⟨ws, a1, a2, a3⟩ := range_at hr hk1 hg hq hs
             obtain ⟨a4, a5⟩ := u8s_ok a1 hl
             have hlen : l.length = n := by
              have := congrArg List.length a4
              rw [List.length_map] at this
              omega
             · refine .inl ⟨?_, (more_calls b o n (capOf cc cp) c l a5 hlen (by omega) hk.2.1 w (fun j x hj => a3 j _ (by rw [a4, List.getElem?_map, hj]; rfl))).mono ?_⟩
               · simp only [callFunc, Sem.run_bind, run_program, Result.andThen_ok, Tryz.func238]
                 rfl
               · rintro e w' ⟨rfl, rfl⟩
                 exact ⟨_, rfl, E, Pre.refl E, hr, rfl⟩
     · cases hy
   · cases hy
 · cases hy
theorem names_ok : Tryz.prog.funcs.toList.all (fun fn => !(fn.name == "runtime.NumGoroutine")) = true := by kernel_rfl
theorem no_count (f : Nat) (fn : Func) (hf : Tryz.prog.funcs[f]? = some fn) : (fn.name == "runtime.NumGoroutine") = false := by
 have h1 := List.all_eq_true.1 names_ok fn (by rw [Array.mem_toList_iff]; exact Array.mem_of_getElem? hf)
 cases hb : fn.name == "runtime.NumGoroutine" with
 | false => rfl
 | true => rw [hb] at h1; cases h1
theorem follows : Tryz.prog.follows .mixedOrders = true := by kernel_rfl
theorem exB_ok : CallOk Tryz.prog w0 exB := by
 intro f xs h y h' hc E w vs hvs hr
 unfold exB at hc
 cases h1 : Nat.beq f 238 with
 | true =>
  obtain rfl := Nat.eq_of_beq_eq_true h1
  obtain ⟨h2, rfl⟩ := extOf_ok hc
  exact more_ok h2 hvs hr
 | false =>
  rw [h1, cond_false] at hc
  cases h2 : Nat.beq f 274 with
  | true =>
   obtain rfl := Nat.eq_of_beq_eq_true h2
   obtain ⟨h3, rfl⟩ := extOf_ok hc
   exact ext12_ok Tryz.func274 (by kernel_rfl) (by kernel_rfl) (by kernel_rfl) (.inl ⟨rfl, by kernel_rfl⟩) h3 hvs hr
  | false =>
   rw [h2, cond_false] at hc
   cases h3 : Nat.beq f 327 with
   | true =>
    obtain rfl := Nat.eq_of_beq_eq_true h3
    obtain ⟨h4, rfl⟩ := extOf_ok hc
    exact ext12_ok Tryz.func327 (by kernel_rfl) (by kernel_rfl) (by kernel_rfl) (.inl ⟨rfl, by kernel_rfl⟩) h4 hvs hr
   | false =>
    rw [h3, cond_false] at hc
    cases h4 : Nat.beq f 319 with
    | true =>
     obtain rfl := Nat.eq_of_beq_eq_true h4
     obtain ⟨h5, rfl⟩ := extOf_ok hc
     exact ext12_ok Tryz.func319 (by kernel_rfl) (by kernel_rfl) (by kernel_rfl) (.inr ⟨rfl, by kernel_rfl⟩) h5 hvs hr
    | false =>
     rw [h4] at hc
     cases hc
/-- What a run told of one call. -/
def memo (F : Nat) (X : List AV) (H : Hp) (r : AV × Hp) (ex : CallT) : CallT := fun f xs h => bif Nat.beq f F then (if xs = X ∧ h = H then some r else ex f xs h) else ex f xs h
theorem memo_ok {F : Nat} {X : List AV} {H : Hp} {r : AV × Hp} {ex : CallT} {K : Hk} {n : Nat} (h1 : HkOk Tryz.prog w0 K) (h2 : callG Tryz.prog K (evG Tryz.prog K n) F X H = some r) (h3 : CallOk Tryz.prog w0 ex) : CallOk Tryz.prog w0 (memo F X H r ex) := by
 intro f xs h y h' hc
 unfold memo at hc
 cases hb : Nat.beq f F with
 | false =>
  rw [hb] at hc
  exact h3 f xs h y h' hc
 | true =>
  obtain rfl := Nat.eq_of_beq_eq_true hb
  rw [hb, cond_true] at hc
  split at hc
  · rename_i hx
    obtain ⟨rfl, rfl⟩ := hx
    cases hc
    rw [callG_eq Tryz.prog K _ _ (fun f p c s => evG_eq Tryz.prog K n f p c s)] at h2
    exact callA_ok h1.ex no_count (evCode_ok follows h1 no_count n).1 f xs h y h' h2
  · exact h3 f xs h y h' hc
def rp0 : Fr → Hp → Oper → Option (AV × Option (Nat × Nat)) := fun _ _ _ => none
def lo0 : Nat → List Bool → St → Option (X × St) := fun _ _ _ => none
theorem rp0_ok : RpOk Tryz.prog rp0 := fun _ _ _ _ _ _ h => by cases h
theorem lo0_ok : LoOk Tryz.prog w0 lo0 := fun _ _ _ _ _ h => by cases h
/-- The plain hooks. -/
noncomputable def KB : Hk := ⟨exB, ruX Tryz.prog, rp0, lo0⟩
theorem KB_ok : HkOk Tryz.prog w0 KB := ⟨exB_ok, ruX_ok, rp0_ok, lo0_ok⟩
end
end Go.Ev
namespace Go.Ev
open Go Go.RowKit
/-- The first entry that is the key's: where, and what. -/
def findX (k : A1) : List (A1 × A2) → Nat → Option (Option (Nat × A2))
 | [], _ => some none
 | e :: es, i => match sameKey k e.1 with
   | some true => some (some (i, e.2))
   | some false => findX k es (Nat.succ i)
   | none => none
def mapX (h : Hp) : AV → Option (Nat × List (A1 × A2))
 | .v (.one (.m k)) => match h.get k with
   | some (.mapx es) => some (k, es)
   | _ => none
 | _ => none
section
variable (P : Program)
def evLookupX (h : Hp) (t : TypeId) (x i : AV) (ok : Bool) : Option AV :=
 match P.underlying t, mapX h x, i with
 | some (.map kt e), some (_, es), .v (.one key) =>
  match keyOk (P.underlying kt) key, findX key es 0 with
  | true, some (some (_, v)) => some (if ok then .tup [v, .one (.b true)] else .v v)
  | true, some none => match zeroT P e with
    | some z => some (if ok then .tup [z, .one (.b false)] else .v z)
    | none => none
  | _, _ => none
 | _, _, _ => none
def evUpdateX (h : Hp) (t : TypeId) (x i v : AV) : Option (List U) :=
 match P.underlying t, mapX h x, i, v with
 | some (.map kt _), some (k, es), .v (.one key), .v w =>
  match keyOk (P.underlying kt) key, findX key es 0 with
  | true, some none => some [.put k (.mapx (es ++ [(key, w)]))]
  | true, some (some (i, _)) => some [.put k (.mapx (es.set i (key, w)))]
  | _, _ => none
 | _, _, _, _ => none
def evDeleteX (h : Hp) (t : TypeId) (x i : AV) : Option (List U) :=
 match P.underlying t, mapX h x, i with
 | some (.map kt _), some (k, es), .v (.one key) =>
  match keyOk (P.underlying kt) key, findX key es 0 with
  | true, some none => some [.put k (.mapx es)]
  | true, some (some (i, _)) => some [.put k (.mapx (es.eraseIdx i))]
  | _, _ => none
 | _, _, _ => none
def evLenX (h : Hp) (t : TypeId) (x : AV) : Option AV :=
 match P.underlying t, mapX h x with
 | some (.map _ _), some (_, es) => some (.v (.one (.i .i64 es.length)))
 | _, _ => none
def ruM (A : Fr) (h : Hp) (o : Oper) : Option (AV × List U) := match o.op with
 | .lookup t x i ok => (evA A x).bind fun a => (evA A i).bind fun b => (evLookupX P h t a b ok).map fun v => (v, [])
 | .mapUpdate t x i v => (evA A x).bind fun a => (evA A i).bind fun b => (evA A v).bind fun c => (evUpdateX P h t a b c).map fun us => (undefA, us)
 | .call c => match c.callee, allSome (evA A) c.args.toList, c.argTypes.toList with
   | .builtin .delete, some [x, k], t :: _ => (evDeleteX P h t x k).map fun us => (.tup [], us)
   | .builtin .len, some [x], t :: _ => (evLenX P h t x).map fun v => (v, [])
   | _, _, _ => none
 | _ => none
end
variable [Sy]
section
variable {E : List Ent} {A : Fr} {n : Nat} {a : Act} {P : Program} {w0 : Base} {w : World} {h : Hp}
abbrev MX (E : List Ent) (e : A1 × A2) (m : MapEntry) : Prop := V1 E e.1 m.key ∧ V2 E e.2 m.val
theorem mapx_of (hr : Rep w0 E h w) {k b c : Nat} {es : List (A1 × A2)} (hk : E[k]? = some (.blk b c)) (hq : h.get k = some (.mapx es)) : ∃ ms cl, w.heap[b]? = some (.map ms cl) ∧ All2 (MX E) es ms.toList :=
 (hr.obj k _ (lt_of_get hr hk) hq).is hk
theorem findXNow_ok {d : TypeDesc} {key : A1} {v : Value} (hv : V1 E key v) (hd : (∃ q j i, d = .int q ∧ v = .int j i ∧ key = .i j i) ∨ (d = .string ∧ ∃ s, v = .string s)) : ∀ (es : List (A1 × A2)) (ms : List MapEntry) (n : Nat) (r : Option (Nat × A2)), All2 (MX E) es ms → findX key es n = some r →
  (r = none ∧ Instr.findNow d v ms n = some none) ∨ ∃ i x u e m, r = some (n + i, x) ∧ V2 E x u ∧ Instr.findNow d v ms n = some (some (n + i, u)) ∧ es[i]? = some e ∧ ms[i]? = some m ∧ m.key = v
 | [], [], n, r, _, hf => by
  cases hf
  exact .inl ⟨rfl, rfl⟩
 | e :: es, m :: ms, n, r, hm, hf => by
  unfold findX at hf
  cases hs : sameKey key e.1 with
  | none => simp [hs] at hf
  | some b =>
   obtain ⟨h1, h2⟩ := sameKey_ok hv hm.1.1 hd hs
   cases b with
   | true =>
    simp only [hs, Option.some.injEq] at hf
    subst hf
    exact .inr ⟨0, e.2, m.val, e, m, rfl, hm.1.2, by simp [Instr.findNow, h1], rfl, rfl, h2 rfl⟩
   | false =>
    simp only [hs] at hf
    rcases findXNow_ok hv hd es ms (n + 1) r hm.2 hf with ⟨g1, g2⟩ | ⟨i, x, u, e', m', g1, g2, g3, g4, g5, g6⟩
    · exact .inl ⟨g1, by simp [Instr.findNow, h1, g2]⟩
    · refine .inr ⟨i + 1, x, u, e', m', by rw [g1, show n + 1 + i = n + (i + 1) by omega], g2, ?_, by simpa using g4, by simpa using g5, g6⟩
      rw [show n + (i + 1) = n + 1 + i by omega]
      simp [Instr.findNow, h1, g3]
theorem findX_ok {kt : TypeId} {key : A1} {v : Value} {es : List (A1 × A2)} {ms : List MapEntry} {r : Option (Nat × A2)} (hk : keyOk (P.underlying kt) key = true) (hv : V1 E key v) (hm : All2 (MX E) es ms) (hf : findX key es 0 = some r) :
  (r = none ∧ (Instr.findKey kt v ms).run P w = .ok none w) ∨ ∃ i x u e m, r = some (i, x) ∧ V2 E x u ∧ (Instr.findKey kt v ms).run P w = .ok (some (i, u)) w ∧ es[i]? = some e ∧ ms[i]? = some m ∧ m.key = v := by
 obtain ⟨d, hd, hcase⟩ := key_ok hk hv
 rcases findXNow_ok hv hcase es ms 0 r hm hf with ⟨h1, h2⟩ | ⟨i, x, u, e, m, h1, h2, h3, h4, h5, h6⟩
 · exact .inl ⟨h1, MapKept.run_findKey hd h2⟩
 · rw [Nat.zero_add] at h1 h3
   exact .inr ⟨i, x, u, e, m, h1, h2, MapKept.run_findKey hd h3, h4, h5, h6⟩
theorem mapX_ok {x : AV} {k : Nat} {es : List (A1 × A2)} (he : mapX h x = some (k, es)) : x = .v (.one (.m k)) ∧ h.get k = some (.mapx es) := by
 unfold mapX at he
 split at he
 · rename_i k'
   cases hg : h.get k' with
   | none => simp [hg] at he
   | some o =>
    cases o <;> simp only [hg] at he <;> first | (cases he; done) | skip
    injection he with he
    injection he with e1 e2
    subst e1; subst e2
    exact ⟨rfl, hg⟩
 · cases he
theorem turns_lookupX (ha : AR E A n a) (hr : Rep w0 E h w) {o : Oper} {t : TypeId} {x i : Operand} {ok : Bool} {p q r : AV} (ho : o.op = .lookup t x i ok) (hx : evA A x = some p) (hi : evA A i = some q) (he : evLookupX P h t p q ok = some r) : Turns P w0 E a w o r (apU h []) := by
 have h1 := evA_ok ha x p hx
 have h2 := evA_ok ha i q hi
 suffices hs : ∃ v, VV E r v ∧ (execOp a.eval o).run P w = .ok (.value v) w by
  obtain ⟨v, g1, g2⟩ := hs
  exact ⟨E, w, v, Pre.refl E, hr, g1, .inl g2⟩
 unfold evLookupX at he
 split at he
 · rename_i kt e k es key hu hmap
   obtain ⟨rfl, hg⟩ := mapX_ok hmap
   have h2 : V1 E key (a.eval i) := h2
   obtain ⟨b, c, hk, hv⟩ := h1
   obtain ⟨ms, cl, hb, hme⟩ := mapx_of hr hk hg
   split at he
   · rename_i i' y hko hf
     rcases findX_ok (w := w) hko h2 hme hf with ⟨h3, _⟩ | ⟨j, y', u, _, _, h3, hu2, hrun, _⟩
     · cases h3
     · cases h3
       have hc := check_ok (w := w) hko h2 ms.isEmpty
       cases he
       cases ok
       · exact ⟨u, hu2, by simp [execOp, ho, hv, Instr.lookup, run_underlying hu, MapKept.run_getObj_map hb, hc, hrun]⟩
       · exact ⟨.tuple #[u, .bool true], ⟨[u, .bool true], ⟨hu2, rfl, trivial⟩, rfl⟩, by simp [execOp, ho, hv, Instr.lookup, run_underlying hu, MapKept.run_getObj_map hb, hc, hrun]⟩
   · rename_i hko hf
     rcases findX_ok (w := w) hko h2 hme hf with ⟨_, hrun⟩ | ⟨j, y', u, _, _, h3, _⟩
     · split at he
       · rename_i z hz
         obtain ⟨u, hu2, hzr⟩ := zero_ok (E := E) hz
         have hc := check_ok (w := w) hko h2 ms.isEmpty
         cases he
         cases ok
         · exact ⟨u, hu2, by simp [execOp, ho, hv, Instr.lookup, run_underlying hu, MapKept.run_getObj_map hb, hc, hrun, hzr]⟩
         · exact ⟨.tuple #[u, .bool false], ⟨[u, .bool false], ⟨hu2, rfl, trivial⟩, rfl⟩, by simp [execOp, ho, hv, Instr.lookup, run_underlying hu, MapKept.run_getObj_map hb, hc, hrun, hzr]⟩
       · cases he
     · cases h3
   · cases he
 · cases he
theorem turns_updateX (ha : AR E A n a) (hr : Rep w0 E h w) {o : Oper} {t : TypeId} {m k x : Operand} {p q s : AV} {us : List U} (ho : o.op = .mapUpdate t m k x) (hm : evA A m = some p) (hk : evA A k = some q) (hx : evA A x = some s) (he : evUpdateX P h t p q s = some us) : Turns P w0 E a w o undefA (apU h us) := by
 have h1 := evA_ok ha m p hm
 have h2 := evA_ok ha k q hk
 have h3 := evA_ok ha x s hx
 unfold evUpdateX at he
 split at he
 · rename_i kt e j es key y hu hmap
   obtain ⟨rfl, hg⟩ := mapX_ok hmap
   obtain ⟨b, c, hb, hv⟩ := h1
   have h2 : V1 E key (a.eval k) := h2
   obtain ⟨ms, cl, hob, hme⟩ := mapx_of hr hb hg
   split at he
   · rename_i hko hf
     cases he
     rcases findX_ok (w := w) hko h2 hme hf with ⟨_, hrun⟩ | ⟨j, y', u, _, _, h4, _⟩
     · have hc := check_ok (w := w) hko h2 false
       obtain ⟨g1, g2⟩ := eff_set (P := P) hr hb hg hob (fun _ _ _ => by simp) (x' := .map (ms.push { key := a.eval k, val := a.eval x, born := cl }) (cl + 1)) (q' := .mapx (es ++ [(key, y)])) ⟨_, _, rfl, by
        rw [Array.toList_push]
        exact hme.append ⟨⟨h2, h3⟩, trivial⟩⟩
       refine ⟨E, _, undef, Pre.refl E, g2, undef_ok, .inr ⟨?_, rfl⟩⟩
       simp only [execOp, ho, hv, Instr.mapUpdate, Sem.run_bind, Sem.run_pure, Result.andThen_ok, run_underlying hu, MapKept.run_getObj_map hob, hc, hrun, g1]
     · cases h4
   · rename_i i z hko hf
     rcases findX_ok (w := w) hko h2 hme hf with ⟨h4, _⟩ | ⟨j', y', u, e0, m0, h4, _, hrun, hei, hmi, hkey⟩
     · cases h4
     · injection h4 with h4
       injection h4 with h4 h5
       subst h4
       cases he
       have hc := check_ok (w := w) hko h2 false
       have hmi2 : ms[i]? = some m0 := by rw [← Array.getElem?_toList]; exact hmi
       have hsame : Instr.sameBits 10000 m0.key (a.eval k) = true := by
        rw [hkey]
        obtain ⟨_, _, ⟨_, j', i', _, hvv, _⟩ | ⟨_, s', hvv⟩⟩ := key_ok hko h2
        · rw [hvv]
          simp [Instr.sameBits]
        · rw [hvv]
          show (s' == s') = true
          rw [beq_toListBytes]
          simp
       obtain ⟨g1, g2⟩ := eff_set (P := P) hr hb hg hob (fun _ _ _ => by simp) (x' := .map (ms.modify i fun e => { e with key := a.eval k, val := a.eval x }) cl) (q' := .mapx (es.set i (key, y))) ⟨_, _, rfl, by
        have hlt : i < ms.toList.length := (List.getElem?_eq_some_iff.1 hmi).1
        have hmod : (ms.modify i fun e => { e with key := a.eval k, val := a.eval x }).toList = ms.toList.set i { m0 with key := a.eval k, val := a.eval x } := by
         rw [Array.toList_modify]
         apply List.ext_getElem?
         intro j
         rw [List.getElem?_modify, List.getElem?_set]
         by_cases hij : i = j
         · subst hij
           rw [hmi]
           have hlt' : i < ms.size := by rw [← Array.length_toList]; exact hlt
           simp [hlt']
         · simp [hij]
        rw [hmod]
        exact hme.set i _ _ ⟨h2, h3⟩⟩
       refine ⟨E, _, undef, Pre.refl E, g2, undef_ok, .inr ⟨?_, rfl⟩⟩
       simp only [execOp, ho, hv, Instr.mapUpdate, Sem.run_bind, Sem.run_pure, Result.andThen_ok, run_underlying hu, MapKept.run_getObj_map hob, hc, hrun, hmi2, Option.map_some, Option.getD_some, Instr.keyThatStays, hsame, if_true, g1]
   · cases he
 · cases he
theorem turns_deleteX (ha : AR E A n a) (hr : Rep w0 E h w) {o : Oper} {c : Call} {x y : AV} {t : TypeId} {tl : List TypeId} {us : List U} (ho : o.op = .call c) (hc : c.callee = .builtin .delete) (hx : allSome (evA A) c.args.toList = some [x, y]) (ht : c.argTypes.toList = t :: tl)
  (he : evDeleteX P h t x y = some us) : Turns P w0 E a w o (.tup []) (apU h us) := by
 obtain ⟨v, u, hv, hu', heq⟩ := args2 ha hx
 have h0 := ty0 ht
 unfold evDeleteX at he
 split at he
 · rename_i kt e k es key hu hmap
   obtain ⟨rfl, hg⟩ := mapX_ok hmap
   obtain ⟨b, c', hk, hv⟩ := hv
   have h2 : V1 E key u := hu'
   obtain ⟨ms, cl, hob, hme⟩ := mapx_of hr hk hg
   split at he
   · rename_i hko hf
     cases he
     have hck := check_ok (w := w) hko h2 ms.isEmpty
     obtain ⟨g1, g2⟩ := eff_set (P := P) hr hk hg hob (fun _ _ _ => by simp) (x' := .map ms cl) (q' := .mapx es) ⟨_, _, rfl, hme⟩
     rcases findX_ok (w := w) hko h2 hme hf with ⟨_, hrun⟩ | ⟨_, _, _, _, _, h4, _⟩
     · refine ⟨E, _, .tuple #[], Pre.refl E, g2, ⟨[], trivial, rfl⟩, .inl ?_⟩
       subst hv
       simp [execOp, ho, resolve, hc, heq, invoke, builtin, Builtin.delete_, h0, run_underlying hu, MapKept.run_getObj_map hob, hck, hrun, g1]
     · cases h4
   · rename_i i z hko hf
     cases he
     have hck := check_ok (w := w) hko h2 ms.isEmpty
     rcases findX_ok (w := w) hko h2 hme hf with ⟨h4, _⟩ | ⟨j, y', u', e0, m0, h4, _, hrun, hei, hmi, hkey⟩
     · cases h4
     · injection h4 with h4
       injection h4 with h4 h5
       subst h4
       obtain ⟨g1, g2⟩ := eff_set (P := P) hr hk hg hob (fun _ _ _ => by simp) (x' := .map (ms.eraseIdxIfInBounds i) cl) (q' := .mapx (es.eraseIdx i)) ⟨_, _, rfl, by
        have : (ms.eraseIdxIfInBounds i).toList = ms.toList.eraseIdx i := by
         have hlt : i < ms.size := by rw [← Array.length_toList]; exact (List.getElem?_eq_some_iff.1 hmi).1
         rw [Array.eraseIdxIfInBounds, dif_pos hlt, Array.toList_eraseIdx]
        rw [this]
        exact hme.eraseIdx i⟩
       refine ⟨E, _, .tuple #[], Pre.refl E, g2, ⟨[], trivial, rfl⟩, .inl ?_⟩
       subst hv
       simp [execOp, ho, resolve, hc, heq, invoke, builtin, Builtin.delete_, h0, run_underlying hu, MapKept.run_getObj_map hob, hck, hrun, g1]
   · cases he
 · cases he
theorem turns_lenX (ha : AR E A n a) (hr : Rep w0 E h w) {o : Oper} {c : Call} {x r : AV} {t : TypeId} {tl : List TypeId} (ho : o.op = .call c) (hc : c.callee = .builtin .len) (hx : allSome (evA A) c.args.toList = some [x]) (ht : c.argTypes.toList = t :: tl)
  (he : evLenX P h t x = some r) : Turns P w0 E a w o r (apU h []) := by
 obtain ⟨v, hv, heq⟩ := args1 ha hx
 have h0 := ty0 ht
 unfold evLenX at he
 split at he
 · rename_i kt e k es hu hmap
   obtain ⟨rfl, hg⟩ := mapX_ok hmap
   obtain ⟨b, c', hk, hv⟩ := hv
   obtain ⟨ms, cl, hob, hme⟩ := mapx_of hr hk hg
   cases he
   have hlen : es.length = ms.size := hme.length.trans Array.length_toList
   refine ⟨E, w, .int .i64 (es.length : Nat), Pre.refl E, hr, rfl, .inl ?_⟩
   subst hv
   simp [execOp, ho, resolve, hc, heq, invoke, builtin, Builtin.len_, h0, run_underlying hu, MapKept.run_getObj_map hob, goInt, hlen]
 · cases he
theorem ruM_ok : RuOk P w0 (ruM P) := by
 intro A n h o v us hx E a w ha hr
 unfold ruM at hx
 split at hx
 · rename_i t x i ok ho
   cases h1 : evA A x with
   | none => simp [h1] at hx
   | some p =>
    cases h2 : evA A i with
    | none => simp [h1, h2] at hx
    | some q =>
     simp only [h1, h2, Option.bind_some] at hx
     cases h3 : evLookupX P h t p q ok with
     | none => simp [h3] at hx
     | some r =>
      simp only [h3, Option.map_some, Option.some.injEq, Prod.mk.injEq] at hx
      obtain ⟨rfl, rfl⟩ := hx
      exact turns_lookupX ha hr ho h1 h2 h3
 · rename_i t x i y ho
   cases h1 : evA A x with
   | none => simp [h1] at hx
   | some p =>
    cases h2 : evA A i with
    | none => simp [h1, h2] at hx
    | some q =>
     cases h4 : evA A y with
     | none => simp [h1, h2, h4] at hx
     | some s =>
      simp only [h1, h2, h4, Option.bind_some] at hx
      cases h3 : evUpdateX P h t p q s with
      | none => simp [h3] at hx
      | some r =>
       simp only [h3, Option.map_some, Option.some.injEq, Prod.mk.injEq] at hx
       obtain ⟨rfl, rfl⟩ := hx
       exact turns_updateX ha hr ho h1 h2 h4 h3
 · rename_i c ho
   split at hx
   · rename_i x k t tl hc hxs hts
     cases h3 : evDeleteX P h t x k with
     | none => simp [h3] at hx
     | some r =>
      simp only [h3, Option.map_some, Option.some.injEq, Prod.mk.injEq] at hx
      obtain ⟨rfl, rfl⟩ := hx
      exact turns_deleteX ha hr ho hc hxs hts h3
   · rename_i x t tl hc hxs hts
     cases h3 : evLenX P h t x with
     | none => simp [h3] at hx
     | some r =>
      simp only [h3, Option.map_some, Option.some.injEq, Prod.mk.injEq] at hx
      obtain ⟨rfl, rfl⟩ := hx
      exact turns_lenX ha hr ho hc hxs hts h3
   · cases hx
 · cases hx
end
end Go.Ev
namespace Go.Ev
open Go Go.RowKit
/-- A row: of an operation, of which operands, what it gives. -/
inductive Rl where
 | bin (op : BinOp) (x y r : A1)
 | len (t : Nat) (x r : A1)
 | cnv (s d : Nat) (x r : A1)
 | slc (t : Nat) (x : A1) (lo hi : Option A1) (r : A1)
 | ixa (t : Nat) (x i r : A1)
 | lod (t : Nat) (x : A1) (k o : Nat) (r : A1)
 | str (s d : Nat) (x : A1) (k o : Nat) (r : A1)
 | app (t : Nat) (s : A1) (k o n m z : Nat) (cs : List A1) (r : A1) (o' : Nat)
def oneOf : Option AV → Option A1
 | some (.v (.one x)) => some x
 | _ => none
def optOf (x : Option (Option AV)) : Option (Option A1) := match x with
 | none => some none
 | some y => (oneOf y).map some
def findR {α : Type} (f : Rl → Option α) : List Rl → Option α
 | [] => none
 | e :: l => match f e with
   | some r => some r
   | none => findR f l
section
variable (P : Program) (tab : List Rl)
def pureT (A : Fr) (o : Oper) : Option AV := match o.op with
 | .binOp op t x y _ => match oneOf (evA A x), oneOf (evA A y) with
   | some a, some b => findR (fun e => match e with
     | .bin op' x' y' r => if op = op' ∧ a = x' ∧ b = y' then some (.v (.one r)) else none
     | _ => none) tab
   | _, _ => none
 | .call c => match c.callee, allSome (evA A) c.args.toList, c.argTypes.toList with
   | .builtin .len, some [.v (.one a)], t :: _ => findR (fun e => match e with
     | .len t' x' r => if t = t' ∧ a = x' then some (.v (.one r)) else none
     | _ => none) tab
   | _, _, _ => none
 | .slice t x lo hi none => match oneOf (evA A x), optOf (lo.map (evA A)), optOf (hi.map (evA A)) with
   | some a, some l, some m => findR (fun e => match e with
     | .slc t' x' lo' hi' r => if t = t' ∧ a = x' ∧ l = lo' ∧ m = hi' then some (.v (.one r)) else none
     | _ => none) tab
   | _, _, _ => none
 | .indexAddr t x i => match oneOf (evA A x), oneOf (evA A i) with
   | some a, some b => findR (fun e => match e with
     | .ixa t' x' i' r => if t = t' ∧ a = x' ∧ b = i' then some (.v (.one r)) else none
     | _ => none) tab
   | _, _ => none
 | .convert s d x => match oneOf (evA A x) with
   | some a => findR (fun e => match e with
     | .cnv s' d' x' r => if s = s' ∧ d = d' ∧ a = x' then some (.v (.one r)) else none
     | _ => none) tab
   | none => none
 | _ => none
def readT (A : Fr) (h : Hp) (o : Oper) : Option AV := match o.op with
 | .load t x => match oneOf (evA A x) with
   | some a => findR (fun e => match e with
     | .lod t' x' k i r => if t = t' ∧ a = x' ∧ h.get k = some (.y i) then some (.v (.one r)) else none
     | _ => none) tab
   | none => none
 | _ => none
def effT (A : Fr) (h : Hp) (o : Oper) : Option (AV × List U) := match o.op with
 | .convert s d x => match oneOf (evA A x) with
   | some a => findR (fun e => match e with
     | .str s' d' x' k i r => if s = s' ∧ d = d' ∧ a = x' ∧ h.get k = some (.y i) then some (.v (.one r), []) else none
     | _ => none) tab
   | none => none
 | .call c => match c.callee, allSome (evA A) c.args.toList, c.argTypes.toList with
   | .builtin .append, some [.v (.one a), x], [t, u] => findR (fun e => match e with
     | .app t' s' k i n m z cs r i' => if t = t' ∧ u = t' ∧ a = s' ∧ h.get k = some (.y i) ∧ h.n = n ∧ Nat.blt k n = true ∧ cellsIn h z x = some cs ∧ lenIn x = some m ∧ Nat.blt 0 m = true then some (.v (.one r), [.del k, .new (.y i')]) else none
     | _ => none) tab
   | _, _, _ => none
 | _ => none
/-- All rules. -/
def ruT (A : Fr) (h : Hp) (o : Oper) : Option (AV × List U) := match pureT tab A o with
 | some v => some (v, [])
 | none => match readT tab A h o with
  | some v => some (v, [])
  | none => effT tab A h o
def ruAll (A : Fr) (h : Hp) (o : Oper) : Option (AV × List U) := match ruX P A h o with
 | some r => some r
 | none => match ruM P A h o with
  | some r => some r
  | none => ruT tab A h o
end
variable [Sy]
def ov (x : A1) : AV := .v (.one x)
/-- A row is right. -/
def RlOk (P : Program) : Rl → Prop
 | .bin op x y r => (∀ t, evBin P op t (ov x.den) (ov y.den) = some (ov r.den)) ∧ x.den ≠ .nili
 | .len t x r => evLenP P t (ov x.den) = some (ov r.den)
 | .cnv s d x r => evConvP P s d (ov x.den) = some (ov r.den)
 | .slc t x lo hi r => evSlice P t (ov x.den) (lo.map fun q => ov q.den) (hi.map fun q => ov q.den) none = some (ov r.den)
 | .ixa t x i r => evIndexAddr P t (ov x.den) (ov i.den) = some (ov r.den)
 | .lod t x k i r => ∀ h : Hp, h.get k = some (Sy.o i) → evLoad P t (ov x.den) h = some (ov r.den)
 | .str s d x k i r => evConvP P s d (ov x.den) = none ∧ ∀ h : Hp, h.get k = some (Sy.o i) → evConvM P h s d (ov x.den) = some (ov r.den, [])
 | .app t s k i n m z cs r i' => ∀ (h : Hp) (q o : Nat) (c : CapE), h.get k = some (Sy.o i) → h.n = n → cellsIn h z (ov (.sl q o m c)) = some cs → evAppend P h t t (ov s.den) (ov (.sl q o m c)) = some (ov r.den, [.del k, .new (Sy.o i')]) ∨ evAppend P h t t (ov s.den) (ov (.sl q o m c)) = some (ov r.den, [.new (Sy.o i')])
theorem findR_ok {α : Type} {f : Rl → Option α} {r : α} : ∀ {l : List Rl}, findR f l = some r → ∃ e ∈ l, f e = some r
 | [], h => by cases h
 | e :: l, h => by
  unfold findR at h
  cases hf : f e with
  | some q =>
   simp only [hf] at h
   cases h
   exact ⟨e, List.mem_cons_self, hf⟩
  | none =>
   simp only [hf] at h
   obtain ⟨e', h1, h2⟩ := findR_ok h
   exact ⟨e', List.mem_cons_of_mem _ h1, h2⟩
theorem asA1_den (v : Value) (x : A1) (h : asA1 v = some x) : x.den = x := by
 unfold asA1 at h
 split at h <;> first
 | (cases h; done)
 | (cases h; rfl)
 | (split at h <;> first | (cases h; done) | (cases h; rfl))
theorem asA1s_den : ∀ (l : List Value) (m : List A1), allSome asA1 l = some m → m.map A1.den = m
 | [], m, h => by cases h; rfl
 | v :: l, m, h => by
  unfold allSome at h
  cases h1 : asA1 v with
  | none => simp [h1] at h
  | some x =>
   cases h2 : allSome asA1 l with
   | none => simp [h1, h2] at h
   | some q =>
    simp only [h1, h2, Option.some.injEq] at h
    subst h
    rw [List.map_cons, asA1_den v x h1, asA1s_den l q h2]
theorem asAV_den (v : Value) (x : AV) (h : asAV v = some x) : denV x = x := by
 have h2 : ∀ y : A2, asA2 v = some y → den2 y = y := by
  intro y hy
  unfold asA2 at hy
  split at hy
  · rename_i cs
    cases h1 : allSome asA1 cs.toList with
    | none => simp [h1] at hy
    | some l =>
     simp only [h1, Option.map_some, Option.some.injEq] at hy
     subst hy
     show A2.agg (l.map A1.den) = A2.agg l
     rw [asA1s_den _ l h1]
  · cases h1 : asA1 v with
    | none => simp [h1] at hy
    | some z =>
     simp only [h1, Option.map_some, Option.some.injEq] at hy
     subst hy
     show A2.one z.den = A2.one z
     rw [asA1_den v z h1]
 unfold asAV at h
 split at h
 · split at h
   · cases h
     rfl
   · cases h
 · cases h1 : asA2 v with
   | none => simp [h1] at h
   | some y =>
    simp only [h1, Option.map_some, Option.some.injEq] at h
    subst h
    show AV.v (den2 y) = AV.v y
    rw [h2 y h1]
theorem evA_den (A : Fr) (x : Operand) : evA (denF A) x = (evA A x).map denV := by
 cases x with
 | tmp t =>
  show (bif Nat.blt t 256 then Tr.get DT (Tr.map denV A) t else none) = (bif Nat.blt t 256 then Tr.get DT A t else none).map denV
  rw [Tr.get_map]
  cases Nat.blt t 256 <;> rfl
 | const v =>
  show asAV v = (asAV v).map denV
  cases h : asAV v with
  | none => rfl
  | some x => rw [Option.map_some, asAV_den v x h]
 | global g => rfl
 | func f => rfl
theorem evAs_den (A : Fr) : ∀ (l : List Operand), allSome (evA (denF A)) l = (allSome (evA A) l).map (List.map denV)
 | [] => rfl
 | x :: l => by
  unfold allSome
  rw [evA_den, evAs_den A l]
  cases evA A x with
  | none => rfl
  | some a => cases allSome (evA A) l <;> rfl
theorem oneOf_ok {x : Option AV} {a : A1} (h : oneOf x = some a) : x = some (ov a) := by
 unfold oneOf at h
 split at h
 · cases h
   rfl
 · cases h
section
variable {E : List Ent} {A : Fr} {n : Nat} {a : Act} {P : Program} {w0 : Base} {w : World} {h : Hp} {tab : List Rl}
theorem optOf_ok {x : Option Operand} {l : Option A1} (h : optOf (x.map (evA A)) = some l) : x.map (evA A) ≠ some none ∧ x.map (evA (denF A)) ≠ some none ∧ (x.map (evA (denF A))).join = l.map fun q => ov q.den := by
 cases x with
 | none =>
  cases h
  exact ⟨by simp, by simp, rfl⟩
 | some x =>
  have h : (oneOf (evA A x)).map some = some l := h
  cases ho : oneOf (evA A x) with
  | none => simp [ho] at h
  | some q =>
   simp only [ho, Option.map_some, Option.some.injEq] at h
   subst h
   have e := oneOf_ok ho
   refine ⟨by simp [e], by simp [evA_den, e], ?_⟩
   simp only [Option.map_some, evA_den, e]
   rfl
theorem pureT_ok (ht : ∀ e ∈ tab, RlOk P e) {o : Oper} {v : AV} (hp : pureT tab A o = some v) : evPure P (denF A) o = some (denV v) := by
 obtain ⟨dst, op, ty, pos, after, guard⟩ := o
 unfold pureT at hp
 simp only at hp
 split at hp
 · rename_i op' t x y yt
   split at hp
   · rename_i p q h1 h2
     obtain ⟨e, he, hf⟩ := findR_ok hp
     split at hf
     · rename_i op2 x' y' r
       split at hf
       · rename_i hc
         obtain ⟨rfl, rfl, rfl⟩ := hc
         cases hf
         obtain ⟨h3, h4⟩ := ht _ he
         have e1 : evA (denF A) x = some (ov p.den) := by rw [evA_den, oneOf_ok h1]; rfl
         have e2 : evA (denF A) y = some (ov q.den) := by rw [evA_den, oneOf_ok h2]; rfl
         have h5 := h3 t
         show ((evA (denF A) x).bind fun a => (evA (denF A) y).bind fun b => slowBin P op' t x y a b) = _
         rw [e1, e2]
         show slowBin P op' t x y (ov p.den) (ov q.den) = some (ov r.den)
         rw [← h5]
         unfold slowBin ov
         split
         · rename_i e3 e4
           injection e3 with e3
           injection e3 with e3
           exact absurd e3 h4
         · rfl
       · cases hf
     · cases hf
   · cases hp
 · rename_i c
   split at hp
   · rename_i p t tl hc hx hts
     obtain ⟨e, he, hf⟩ := findR_ok hp
     split at hf
     · rename_i t' x' r
       split at hf
       · rename_i hcc
         obtain ⟨rfl, rfl⟩ := hcc
         cases hf
         have h3 : evLenP P t (ov p.den) = some (ov r.den) := ht _ he
         have e1 : allSome (evA (denF A)) c.args.toList = some [ov p.den] := by rw [evAs_den, hx]; rfl
         simp only [evPure, hc, e1, hts]
         exact h3
       · cases hf
     · cases hf
   · cases hp
 · rename_i t x lo hi
   split at hp
   · rename_i p l m h1 h2 h3
     obtain ⟨e, he, hf⟩ := findR_ok hp
     split at hf
     · rename_i t' x' lo' hi' r
       split at hf
       · rename_i hcc
         obtain ⟨rfl, rfl, rfl, rfl⟩ := hcc
         cases hf
         have h4 : evSlice P t (ov p.den) (l.map fun q => ov q.den) (m.map fun q => ov q.den) none = some (ov r.den) := ht _ he
         have e1 : evA (denF A) x = some (ov p.den) := by rw [evA_den, oneOf_ok h1]; rfl
         obtain ⟨_, g1, g2⟩ := optOf_ok h2
         obtain ⟨_, g3, g4⟩ := optOf_ok h3
         have e2 : evPure P (denF A) ⟨dst, .slice t x lo hi none, ty, pos, after, guard⟩ = (match evA (denF A) x, lo.map (evA (denF A)), hi.map (evA (denF A)), (none : Option Operand).map (evA (denF A)) with
          | some v, some none, _, _ | some v, _, some none, _ | some v, _, _, some none => none
          | some v, a, b, c => evSlice P t v a.join b.join c.join
          | none, _, _, _ => none) := rfl
         rw [e2, e1]
         generalize lo.map (evA (denF A)) = L at g1 g2
         generalize hi.map (evA (denF A)) = M at g3 g4
         rw [← g2, ← g4] at h4
         rcases L with _ | (_ | L)
         · rcases M with _ | (_ | M)
           · exact h4
           · exact absurd rfl g3
           · exact h4
         · exact absurd rfl g1
         · rcases M with _ | (_ | M)
           · exact h4
           · exact absurd rfl g3
           · exact h4
       · cases hf
     · cases hf
   · cases hp
 · rename_i t x i
   split at hp
   · rename_i p q h1 h2
     obtain ⟨e, he, hf⟩ := findR_ok hp
     split at hf
     · rename_i t' x' i' r
       split at hf
       · rename_i hcc
         obtain ⟨rfl, rfl, rfl⟩ := hcc
         cases hf
         have h3 : evIndexAddr P t (ov p.den) (ov q.den) = some (ov r.den) := ht _ he
         have e1 : evA (denF A) x = some (ov p.den) := by rw [evA_den, oneOf_ok h1]; rfl
         have e2 : evA (denF A) i = some (ov q.den) := by rw [evA_den, oneOf_ok h2]; rfl
         simp only [evPure, e1, e2, Option.bind_some]
         exact h3
       · cases hf
     · cases hf
   · cases hp
 · rename_i s d x
   split at hp
   · rename_i p h1
     obtain ⟨e, he, hf⟩ := findR_ok hp
     split at hf
     · rename_i s' d' x' r
       split at hf
       · rename_i hcc
         obtain ⟨rfl, rfl, rfl⟩ := hcc
         cases hf
         have h3 : evConvP P s d (ov p.den) = some (ov r.den) := ht _ he
         have e1 : evA (denF A) x = some (ov p.den) := by rw [evA_den, oneOf_ok h1]; rfl
         simp only [evPure, e1, Option.bind_some]
         exact h3
       · cases hf
     · cases hf
   · cases hp
 · cases hp
theorem get_den_y {k i : Nat} (hg : h.get k = some (.y i)) : (denH h).get k = some (Sy.o i) := by
 rw [get_denH, hg]
 rfl
theorem readT_ok (ht : ∀ e ∈ tab, RlOk P e) {o : Oper} {v : AV} (hp : readT tab A h o = some v) : evRead P (denF A) (denH h) o = some (denV v) := by
 obtain ⟨dst, op, ty, pos, after, guard⟩ := o
 unfold readT at hp
 simp only at hp
 split at hp
 · rename_i t x
   split at hp
   · rename_i p h1
     obtain ⟨e, he, hf⟩ := findR_ok hp
     split at hf
     · rename_i t' x' k i r
       split at hf
       · rename_i hcc
         obtain ⟨rfl, rfl, hg⟩ := hcc
         cases hf
         have h3 : ∀ h : Hp, h.get k = some (Sy.o i) → evLoad P t (ov p.den) h = some (ov r.den) := ht _ he
         have e1 : evA (denF A) x = some (ov p.den) := by rw [evA_den, oneOf_ok h1]; rfl
         simp only [evRead, e1, Option.bind_some]
         exact h3 _ (get_den_y hg)
       · cases hf
     · cases hf
   · cases hp
 · cases hp
theorem cellsIn_den {z q o c : Nat} {cp : CapE} {cs : List A1} (hc : cellsIn h z (ov (.sl q o c cp)) = some cs) : cellsIn (denH h) z (ov (.sl q o c cp)) = some cs := by
 unfold cellsIn ov at *
 simp only at *
 rw [get_denH]
 cases hg : h.get q with
 | none => simp [hg] at hc
 | some ob =>
  simp only [hg, Option.map_some, Option.bind_some] at *
  cases ob with
  | y i => simp [rowOf] at hc
  | _ => exact hc
theorem effT_ok (ht : ∀ e ∈ tab, RlOk P e) {o : Oper} {v : AV} {us : List U} (hp : effT tab A h o = some (v, us)) : evEff P (denF A) (denH h) o = some (denV v, us.map denU) ∨ ∃ k q, Nat.blt k h.n = true ∧ us = [.del k, .new q] ∧ evEff P (denF A) (denH h) o = some (denV v, [.new q.den]) := by
 obtain ⟨dst, op, ty, pos, after, guard⟩ := o
 unfold effT at hp
 simp only at hp
 split at hp
 · rename_i s d x
   split at hp
   · rename_i p h1
     obtain ⟨e, he, hf⟩ := findR_ok hp
     split at hf
     · rename_i s' d' x' k i r
       split at hf
       · rename_i hcc
         obtain ⟨rfl, rfl, rfl, hg⟩ := hcc
         cases hf
         obtain ⟨h2, h3⟩ : evConvP P s d (ov p.den) = none ∧ ∀ h : Hp, h.get k = some (Sy.o i) → evConvM P h s d (ov p.den) = some (ov r.den, []) := ht _ he
         have e1 : evA (denF A) x = some (ov p.den) := by rw [evA_den, oneOf_ok h1]; rfl
         left
         simp only [evEff, e1, Option.bind_some]
         exact h3 _ (get_den_y hg)
       · cases hf
     · cases hf
   · cases hp
 · rename_i c
   split at hp
   · rename_i p x t u hc hx hts
     obtain ⟨e, he, hf⟩ := findR_ok hp
     split at hf
     · rename_i t' s' k i n' m z cs r i'
       split at hf
       · rename_i hcc
         obtain ⟨rfl, rfl, rfl, hg, hn, hlt, hcs, hl, hm⟩ := hcc
         cases hf
         have h3 : ∀ (h : Hp) (q o : Nat) (c : CapE), h.get k = some (Sy.o i) → h.n = n' → cellsIn h z (ov (.sl q o m c)) = some cs → evAppend P h u u (ov p.den) (ov (.sl q o m c)) = some (ov r.den, [.del k, .new (Sy.o i')]) ∨ evAppend P h u u (ov p.den) (ov (.sl q o m c)) = some (ov r.den, [.new (Sy.o i')]) := ht _ he
         have hm0 : m ≠ 0 := by have := Nat.le_of_ble_eq_true hm; omega
         have hx2 : ∃ q o c, x = ov (.sl q o m c) := by
          unfold cellsIn at hcs
          split at hcs
          · rename_i q o' n' c'
            have : n' = m := by simpa [lenIn] using hl
            subst this
            exact ⟨q, o', c', rfl⟩
          · cases hcs
         obtain ⟨q, o', c', rfl⟩ := hx2
         have e1 : allSome (evA (denF A)) c.args.toList = some [ov p.den, ov (.sl q o' m c')] := by rw [evAs_den, hx]; rfl
         rcases h3 (denH h) q o' c' (get_den_y hg) hn (cellsIn_den hcs) with h4 | h4
         · left
           simp only [evEff, hc, e1, hts]
           exact h4
         · refine .inr ⟨k, .y i', by rw [hn]; exact hlt, rfl, ?_⟩
           simp only [evEff, hc, e1, hts]
           exact h4
       · cases hf
     · cases hf
   · cases hp
 · cases hp
theorem Rep.congr {h' : Hp} (hr : Rep w0 E h w) (hn : h'.n = h.n) (hg : ∀ k, k < 2 ^ D → h'.get k = h.get k) : Rep w0 E h' w where
 below := hr.below
 len := by rw [hn]; exact hr.len
 bound := by rw [hn]; exact hr.bound
 obj := fun k o hk ho => by
  rw [hn] at hk
  rw [hg k (Nat.lt_of_lt_of_le hk hr.bound)] at ho
  exact hr.obj k o hk ho
 free := fun k hk hkd => by
  rw [hn] at hk
  rw [hg k hkd]
  exact hr.free k hk hkd
 sep := fun k k' o o' b c c' hk hk' ho ho' h1 h2 => by
  rw [hn] at hk hk'
  rw [hg k (Nat.lt_of_lt_of_le hk hr.bound)] at ho
  rw [hg k' (Nat.lt_of_lt_of_le hk' hr.bound)] at ho'
  exact hr.sep k k' o o' b c c' hk hk' ho ho' h1 h2
 old := fun k o b c hk ho he => by
  rw [hn] at hk
  rw [hg k (Nat.lt_of_lt_of_le hk hr.bound)] at ho
  exact hr.old k o b c hk ho he
theorem Rep.delNew {k : Nat} {q : AO} (hk : k < h.n) (hr : Rep w0 E (h.new q) w) : Rep w0 E ((h.del k).new q) w := by
 have hb : h.n + 1 ≤ 2 ^ D := hr.bound
 have h1 : Rep w0 E ((h.new q).del k) w := hr.del (by show k < h.n + 1; omega)
 refine h1.congr rfl (fun j hj => ?_)
 show Tr.get D (Tr.set D (Tr.set D h.t k none) h.n (some q)) j = Tr.get D (Tr.set D (Tr.set D h.t h.n (some q)) k none) j
 by_cases e1 : j = h.n
 · subst e1
   rw [Tr.get_same, Tr.get_other D _ k h.n _ (by omega) (by omega) (by omega), Tr.get_same]
 · rw [Tr.get_other D _ h.n j _ (by omega) hj e1]
   by_cases e2 : j = k
   · subst e2
     rw [Tr.get_same, Tr.get_same]
   · rw [Tr.get_other D _ k j _ (by omega) hj e2, Tr.get_other D _ k j _ (by omega) hj e2, Tr.get_other D _ h.n j _ (by omega) hj e1]
theorem turns_delNew {k : Nat} {q : AO} {o : Oper} {v : AV} (hk : k < h.n) (ht : Turns P w0 E a w o v (apU h [.new q])) : Turns P w0 E a w o v (apU h [.del k, .new q]) := by
 obtain ⟨E', w', u, h1, h2, h3, h4⟩ := ht
 exact ⟨E', w', u, h1, Rep.delNew hk h2, h3, h4⟩
theorem ruT_ok (ht : ∀ e ∈ tab, RlOk P e) : RuOk P w0 (ruT tab) := by
 intro A n h o v us hx E a w ha hr
 unfold ruT at hx
 split at hx
 · rename_i v' h1
   cases hx
   exact turns_pure ha hr (pureT_ok ht h1)
 · split at hx
   · rename_i v' h1
     cases hx
     exact turns_read ha hr (readT_ok ht h1)
   · rcases effT_ok ht hx with h1 | ⟨k, q, hk, rfl, h1⟩
     · exact turns_eff ha hr h1
     · exact turns_delNew (Nat.le_of_ble_eq_true hk) (turns_eff (us := [.new q]) ha hr h1)
theorem ruAll_ok (ht : ∀ e ∈ tab, RlOk P e) : RuOk P w0 (ruAll P tab) := by
 intro A n h o v us hx E a w ha hr
 unfold ruAll at hx
 split at hx
 · rename_i r h1
   cases hx
   exact ruX_ok A n h o v us h1 E a w ha hr
 · split at hx
   · rename_i r h1
     cases hx
     exact ruM_ok A n h o v us h1 E a w ha hr
   · exact ruT_ok ht A n h o v us hx E a w ha hr
def rpOf (f : Fr → Oper → Option AV) (A : Fr) (h : Hp) (o : Oper) : Option (AV × Option (Nat × Nat)) := (f A o).map fun v => (v, none)
theorem rpT_ok (ht : ∀ e ∈ tab, RlOk P e) : RpOk P (rpOf (pureT tab)) := fun A n h o v d hx E a ha => by
 unfold rpOf at hx
 cases hp : pureT tab A o with
 | none => simp [hp] at hx
 | some v' =>
  simp only [hp, Option.map_some, Option.some.injEq, Prod.mk.injEq] at hx
  obtain ⟨rfl, rfl⟩ := hx
  exact .inl ⟨rfl, gives_den ha (pureT_ok ht hp)⟩
end
end Go.Ev
