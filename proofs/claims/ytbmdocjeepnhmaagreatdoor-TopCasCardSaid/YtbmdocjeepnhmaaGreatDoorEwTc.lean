/- More rows: a text that is a letter turned into bytes; a slice that is a letter appended to nothing. -/
import Derived.Test.YtbmdocjeepnhmaaGreatDoorEwS
import Derived.Test.YtbmdocjeepnhmaaGreatDoorEwExt
import Derived.Test.YtbmdocjeepnhmaaGreatDoorEwG
set_option linter.unusedVariables false
set_option linter.unusedSimpArgs false
set_option linter.unusedSectionVars false
namespace Go.Ev
open Go Go.RowKit
inductive R2 where
 | byt (s d : Nat) (x : A1) (n : Nat) (r : A1) (o : Nat)
 | mn (x y r : A1)
 | apx (t : Nat) (x : A1) (kx ix n : Nat) (r : A1) (o : Nat)
def findR2 (f : R2 → Option (AV × List U)) : List R2 → Option (AV × List U)
 | [] => none
 | e :: l => match f e with
   | some r => some r
   | none => findR2 f l
def ruT2 (tab : List R2) (A : Fr) (h : Hp) (o : Oper) : Option (AV × List U) := match o.op with
 | .convert s d x => match oneOf (evA A x) with
   | some a => findR2 (fun e => match e with
     | .byt s' d' x' n r i => if s = s' ∧ d = d' ∧ a = x' ∧ h.n = n then some (.v (.one r), [.new (.y i)]) else none
     | _ => none) tab
   | none => none
 | .call c => match c.callee, allSome (evA A) c.args.toList, c.argTypes.toList with
   | .builtin .append, some [.v (.one .nils), .v (.one a)], [t, u] => findR2 (fun e => match e with
     | .apx t' x' kx ix n r i => if t = t' ∧ u = t' ∧ a = x' ∧ h.get kx = some (.y ix) ∧ h.n = n then some (.v (.one r), [.new (.y i)]) else none
     | _ => none) tab
   | .builtin .min, some [.v (.one a), .v (.one b)], _ => findR2 (fun e => match e with
     | .mn x y r => if a = x ∧ b = y then some (.v (.one r), []) else none
     | _ => none) tab
   | _, _, _ => none
 | _ => none
end Go.Ev
namespace Go.Ev
open Go Go.RowKit
theorem findR2_ok {f : R2 → Option (AV × List U)} {r : AV × List U} : ∀ {l : List R2}, findR2 f l = some r → ∃ e ∈ l, f e = some r
 | [], h => by cases h
 | e :: l, h => by
  unfold findR2 at h
  cases hf : f e with
  | some q =>
   simp only [hf] at h
   cases h
   exact ⟨e, List.mem_cons_self, hf⟩
  | none =>
   simp only [hf] at h
   obtain ⟨e', h1, h2⟩ := findR2_ok h
   exact ⟨e', List.mem_cons_of_mem _ h1, h2⟩
variable [Sy]
def R2Ok (P : Program) : R2 → Prop
 | .byt s d x n r i => ∀ h : Hp, h.n = n → evConvP P s d (ov x.den) = none ∧ evConvM P h s d (ov x.den) = some (ov r.den, [.new (Sy.o i)])
 | .mn x y r => foldMM (fun a b => if b < a then b else a) [ov x.den, ov y.den] = some (ov r.den)
 | .apx t x kx ix n r i => ∀ h : Hp, h.get kx = some (Sy.o ix) → h.n = n → evAppend P h t t (ov .nils) (ov x.den) = some (ov r.den, [.new (Sy.o i)])
theorem ruT2_ok {P : Program} {w0 : Base} {tab : List R2} (ht : ∀ e ∈ tab, R2Ok P e) : RuOk P w0 (ruT2 tab) := by
 intro A n h o v us hx E a w ha hr
 obtain ⟨dst, op, ty, pos, after, guard⟩ := o
 unfold ruT2 at hx
 simp only at hx
 split at hx
 · rename_i s d x
   split at hx
   · rename_i p h1
     obtain ⟨e, he, hf⟩ := findR2_ok hx
     split at hf
     · rename_i s' d' x' n' r i
       split at hf
       · rename_i hcc
         obtain ⟨rfl, rfl, rfl, hn⟩ := hcc
         cases hf
         have h3 : ∀ h : Hp, h.n = n' → evConvP P s d (ov p.den) = none ∧ evConvM P h s d (ov p.den) = some (ov r.den, [.new (Sy.o i)]) := ht _ he
         have e1 : evA (denF A) x = some (ov p.den) := by rw [evA_den, oneOf_ok h1]; rfl
         refine turns_eff ha hr ?_
         simp only [evEff, e1, Option.bind_some]
         exact (h3 (denH h) hn).2
       · cases hf
     · cases hf
   · cases hx
 · rename_i c
   split at hx
   · rename_i p t u hc hxs hts
     obtain ⟨e, he, hf⟩ := findR2_ok hx
     split at hf
     · rename_i t' x' kx ix n' r i
       split at hf
       · rename_i hcc
         obtain ⟨rfl, rfl, rfl, hg, hn⟩ := hcc
         cases hf
         have h3 : ∀ h : Hp, h.get kx = some (Sy.o ix) → h.n = n' → evAppend P h u u (ov .nils) (ov p.den) = some (ov r.den, [.new (Sy.o i)]) := ht _ he
         have e1 : allSome (evA (denF A)) c.args.toList = some [ov .nils, ov p.den] := by rw [evAs_den, hxs]; rfl
         refine turns_eff ha hr ?_
         simp only [evEff, hc, e1, hts]
         exact h3 (denH h) (get_den_y hg) hn
       · cases hf
     · cases hf
   · rename_i p q hc hxs
     obtain ⟨e, he, hf⟩ := findR2_ok hx
     split at hf
     · rename_i x y r
       split at hf
       · rename_i hcc
         obtain ⟨rfl, rfl⟩ := hcc
         cases hf
         have h3 : foldMM (fun a b => if b < a then b else a) [ov p.den, ov q.den] = some (ov r.den) := ht _ he
         have e1 : allSome (evA (denF A)) c.args.toList = some [ov p.den, ov q.den] := by rw [evAs_den, hxs]; rfl
         refine turns_pure ha hr ?_
         simp only [evPure, hc, e1]
         exact h3
       · cases hf
     · cases hf
   · cases hx
 · cases hx
end Go.Ev
namespace Go.Ev
open Go Go.RowKit Go.Proofs
/-- The blocks of what is told of in h, not in hs. -/
def frBase (z : Base) (E : List Ent) (h hs : Hp) (w : World) : Base where
 w := w
 pr b := b < w.heap.size ∧ (z.pr b ∨ ∃ k o c, k < h.n ∧ h.get k = some o ∧ hs.get k = none ∧ E[k]? = some (Ent.blk b c))
 lt _ h := h.1
/-- Part of a memory. -/
structure Part (h hs : Hp) : Prop where
 n : hs.n = h.n
 sub : ∀ k o, k < 2 ^ D → hs.get k = some o → h.get k = some o
/-- What the part became, and the rest. -/
structure Merged (h hs hs' h' : Hp) : Prop where
 n : h'.n = hs'.n
 rest : ∀ k o, k < 2 ^ D → h.get k = some o → hs.get k = none → h'.get k = some o
 part : ∀ k, k < 2 ^ D → (h.get k = none ∨ ∃ o, hs.get k = some o) → h'.get k = hs'.get k
section
variable {S : Sy} {z : Base} {E E' : List Ent} {h hs hs' h' : Hp} {w w' : World}
theorem part_rep (hr : @Rep S z E h w) (hp : Part h hs) : @Rep S (frBase z E h hs w) E hs w := by
 have hb := @Rep.bound S z E h w hr
 have hget : ∀ k o, k < hs.n → hs.get k = some o → k < h.n ∧ h.get k = some o := fun k o hk ho => by
  rw [hp.n] at hk
  exact ⟨hk, hp.sub k o (Nat.lt_of_lt_of_le hk hb) ho⟩
 refine @Rep.mk S _ E hs w ⟨rfl, rfl, rfl, Nat.le_refl _, fun _ _ => rfl⟩ ((@Rep.len S z E h w hr).trans hp.n.symm) (by rw [hp.n]; exact hb) ?_ ?_ ?_ ?_
 · intro k o hk ho
   obtain ⟨h1, h2⟩ := hget k o hk ho
   exact @Rep.obj S z E h w hr k o h1 h2
 · intro k hk hkd
   rw [hp.n] at hk
   cases ho : hs.get k with
   | none => rfl
   | some o =>
    have h1 := hp.sub k o hkd ho
    rw [@Rep.free S z E h w hr k hk hkd] at h1
    cases h1
 · intro k k' o o' b c c' hk hk' ho ho' h1 h2
   obtain ⟨g1, g2⟩ := hget k o hk ho
   obtain ⟨g3, g4⟩ := hget k' o' hk' ho'
   exact @Rep.sep S z E h w hr k k' o o' b c c' g1 g3 g2 g4 h1 h2
 · intro k o b c hk ho he
   obtain ⟨g1, g2⟩ := hget k o hk ho
   have h3 := @Rep.old S z E h w hr k o b c g1 g2 he
   refine ⟨?_, h3.2⟩
   rintro ⟨_, hpz | ⟨k', o', c', g5, g6, g7, g8⟩⟩
   · exact h3.1 hpz
   · have := @Rep.sep S z E h w hr k k' o o' b c c' g1 g5 g2 g6 he g8
     subst this
     rw [ho] at g7
     cases g7
theorem merge_rep (hr : @Rep S z E h w) (hp : Part h hs) (hpre : Pre E E') (hr' : @Rep S (frBase z E h hs w) E' hs' w') (hm : Merged h hs hs' h') : @Rep S z E' h' w' := by
 have hb := @Rep.bound S z E h w hr
 have hb' := @Rep.bound S _ E' hs' w' hr'
 have hk1 := @Rep.below S z E h w hr
 have hk2 := @Rep.below S _ E' hs' w' hr'
 have hlen : E.length = h.n := @Rep.len S z E h w hr
 have hlen' : E'.length = hs'.n := @Rep.len S _ E' hs' w' hr'
 have hle : h.n ≤ hs'.n := by rw [← hlen, ← hlen']; exact hpre.1
 have hsize : w.heap.size ≤ w'.heap.size := hk2.size
 -- which it is
 have cases_ : ∀ k o, k < h'.n → h'.get k = some o → (k < h.n ∧ h.get k = some o ∧ hs.get k = none) ∨ (k < hs'.n ∧ hs'.get k = some o) := by
  intro k o hk ho
  rw [hm.n] at hk
  have hkd := Nat.lt_of_lt_of_le hk hb'
  cases hg : h.get k with
  | none =>
   right
   rw [hm.part k hkd (.inl hg)] at ho
   exact ⟨hk, ho⟩
  | some q =>
   cases hgs : hs.get k with
   | some q' =>
    right
    rw [hm.part k hkd (.inr ⟨q', hgs⟩)] at ho
    exact ⟨hk, ho⟩
   | none =>
    left
    have h1 := hm.rest k q hkd hg hgs
    rw [h1] at ho
    cases ho
    refine ⟨?_, rfl, rfl⟩
    rcases Nat.lt_or_ge k h.n with h2 | h2
    · exact h2
    · rw [@Rep.free S z E h w hr k h2 hkd] at hg
      cases hg
 have frame : ∀ k o b c, k < h.n → h.get k = some o → hs.get k = none → E[k]? = some (Ent.blk b c) → (frBase z E h hs w).pr b := fun k o b c h1 h2 h3 h4 => ⟨(@Rep.old S z E h w hr k o b c h1 h2 h4).2, .inr ⟨k, o, c, h1, h2, h3, h4⟩⟩
 have toE : ∀ k, k < h.n → E'[k]? = E[k]? := fun k hk => hpre.2 k (by rw [hlen]; exact hk)
 refine @Rep.mk S z E' h' w' ⟨hk2.os.trans hk1.os, hk2.tape.trans hk1.tape, hk2.output.trans hk1.output, Nat.le_trans hk1.size hsize, fun b hbz => ?_⟩ (hlen'.trans hm.n.symm) (by rw [hm.n]; exact hb') ?_ ?_ ?_ ?_
 · have hlt : b < w.heap.size := Nat.lt_of_lt_of_le (z.lt b hbz) hk1.size
   exact (hk2.block b ⟨hlt, .inl hbz⟩).trans (hk1.block b hbz)
 · intro k o hk ho
   rcases cases_ k o hk ho with ⟨h1, h2, h3⟩ | ⟨h1, h2⟩
   · have hok : @OK S E' w k o := by
      letI := S
      exact OK.ext hpre.ext (@Rep.obj S z E h w hr k o h1 h2)
     have hok0 := @Rep.obj S z E h w hr k o h1 h2
     cases o <;> first
     | (obtain ⟨b, c, g1, g2⟩ := hok0
        refine ⟨b, c, by rw [toE k h1]; exact g1, ?_⟩
        have hbk := hk2.block b (frame k _ b c h1 h2 h3 g1)
        have hbk : w'.heap[b]? = w.heap[b]? := hbk
        rw [hbk]
        exact @Is.ext S E E' c _ _ hpre.ext g2)
     | exact hok
   · exact @Rep.obj S _ E' hs' w' hr' k o h1 h2
 · intro k hk hkd
   rw [hm.n] at hk
   have hg : h.get k = none := @Rep.free S z E h w hr k (Nat.le_trans hle hk) hkd
   rw [hm.part k hkd (.inl hg)]
   exact @Rep.free S _ E' hs' w' hr' k hk hkd
 · intro k k' o o' b c c' hk hk' ho ho' h1 h2
   rcases cases_ k o hk ho with ⟨g1, g2, g3⟩ | ⟨g1, g2⟩ <;> rcases cases_ k' o' hk' ho' with ⟨f1, f2, f3⟩ | ⟨f1, f2⟩
   · rw [toE k g1] at h1
     rw [toE k' f1] at h2
     exact @Rep.sep S z E h w hr k k' o o' b c c' g1 f1 g2 f2 h1 h2
   · rw [toE k g1] at h1
     exact absurd (frame k o b c g1 g2 g3 h1) (@Rep.old S _ E' hs' w' hr' k' o' b c' f1 f2 h2).1
   · rw [toE k' f1] at h2
     exact absurd (frame k' o' b c' f1 f2 f3 h2) (@Rep.old S _ E' hs' w' hr' k o b c g1 g2 h1).1
   · exact @Rep.sep S _ E' hs' w' hr' k k' o o' b c c' g1 f1 g2 f2 h1 h2
 · intro k o b c hk ho he
   rcases cases_ k o hk ho with ⟨g1, g2, g3⟩ | ⟨g1, g2⟩
   · rw [toE k g1] at he
     have := @Rep.old S z E h w hr k o b c g1 g2 he
     exact ⟨this.1, Nat.lt_of_lt_of_le this.2 hsize⟩
   · have := @Rep.old S _ E' hs' w' hr' k o b c g1 g2 he
     refine ⟨fun hpz => this.1 ⟨Nat.lt_of_lt_of_le (z.lt b hpz) hk1.size, .inl hpz⟩, this.2⟩
/-- A call over more memory than it is known of. -/
theorem frame_call {P : Program} {f : Nat} {y : AV} {vs : List Value} (hc : ∀ z, @Rep S z E hs w → @CallDoes S P z E f vs.toArray w y hs') (hp : Part h hs) (hm : Merged h hs hs' h') (hr : @Rep S z E h w) : @CallDoes S P z E f vs.toArray w y h' := by
 rcases hc _ (part_rep hr hp) with ⟨h1, h2⟩ | ⟨v, h1, h2, h3⟩
 · refine .inl ⟨h1, h2.mono ?_⟩
   rintro e w' ⟨v, rfl, E', g1, g2, g3⟩
   exact ⟨v, rfl, E', g1, merge_rep hr hp g1 g2 hm, g3⟩
 · exact .inr ⟨v, h1, h2, merge_rep hr hp (Pre.refl E) h3 hm⟩
end
end Go.Ev
namespace Go.Ev
open Go Go.RowKit Go.Proofs
/-- Some objects put, some taken away. -/
def putL (l : List (Nat × Option AO)) (h : Hp) (n : Nat) : Hp := ⟨l.foldl (fun t p => Tr.set D t p.1 p.2) h.t, n⟩
def partB (hs h : Hp) : Bool := Nat.beq hs.n h.n && (List.range h.n).all fun k => match hs.get k with
 | none => true
 | some o => match h.get k with
   | some q => decide (o = q)
   | none => false
/-- The names of what the part does not tell of. -/
def extras (hs h : Hp) : List Nat := (List.range h.n).filter fun k => match hs.get k with
 | some _ => false
 | none => match h.get k with
   | some _ => true
   | none => false
def mergeH (h hs' : Hp) (l : List Nat) : Hp := ⟨l.foldl (fun t k => Tr.set D t k (h.get k)) hs'.t, hs'.n⟩
def memoF (F : Nat) (X : List AV) (hs : Hp) (R : AV × Hp) (ex : CallT) : CallT := fun f xs h => bif Nat.beq f F then (if xs = X then (bif partB hs h then some (R.1, mergeH h R.2 (extras hs h)) else ex f xs h) else ex f xs h) else ex f xs h
theorem fold_other (h : Hp) : ∀ (l : List Nat) (t : Tr AO) (j : Nat), (∀ k ∈ l, k < 2 ^ D) → j < 2 ^ D → j ∉ l → Tr.get D (l.foldl (fun t k => Tr.set D t k (h.get k)) t) j = Tr.get D t j
 | [], _, _, _, _, _ => rfl
 | k :: l, t, j, hl, hj, hn => by
  rw [List.foldl_cons, fold_other h l _ j (fun q hq => hl q (List.mem_cons_of_mem _ hq)) hj (fun hq => hn (List.mem_cons_of_mem _ hq))]
  exact Tr.get_other D t k j _ (hl k List.mem_cons_self) hj (fun e => hn (by rw [e]; exact List.mem_cons_self))
theorem fold_in (h : Hp) : ∀ (l : List Nat) (t : Tr AO) (j : Nat), (∀ k ∈ l, k < 2 ^ D) → j < 2 ^ D → j ∈ l → Tr.get D (l.foldl (fun t k => Tr.set D t k (h.get k)) t) j = h.get j
 | k :: l, t, j, hl, hj, hn => by
  rw [List.foldl_cons]
  by_cases hjl : j ∈ l
  · exact fold_in h l _ j (fun q hq => hl q (List.mem_cons_of_mem _ hq)) hj hjl
  · rw [fold_other h l _ j (fun q hq => hl q (List.mem_cons_of_mem _ hq)) hj hjl]
    rcases List.mem_cons.1 hn with rfl | h1
    · exact Tr.get_same D t j _
    · exact absurd h1 hjl
theorem mem_extras {hs h : Hp} {k : Nat} : k ∈ extras hs h ↔ k < h.n ∧ hs.get k = none ∧ ∃ o, h.get k = some o := by
 unfold extras
 rw [List.mem_filter, List.mem_range]
 constructor
 · rintro ⟨h1, h2⟩
   cases hg : hs.get k with
   | some o => simp [hg] at h2
   | none =>
    cases ho : h.get k with
    | none => simp [hg, ho] at h2
    | some o => exact ⟨h1, rfl, o, rfl⟩
 · rintro ⟨h1, h2, o, h3⟩
   exact ⟨h1, by simp [h2, h3]⟩
theorem partB_ok {hs h : Hp} (hp : partB hs h = true) (hf : freeB hs = true) : Part h hs := by
 unfold partB at hp
 rw [Bool.and_eq_true] at hp
 have hn := Nat.eq_of_beq_eq_true hp.1
 refine ⟨hn, fun k o hk ho => ?_⟩
 rcases Nat.lt_or_ge k h.n with h1 | h1
 · have h2 := List.all_eq_true.1 hp.2 k (List.mem_range.2 h1)
   simp only [ho] at h2
   cases hg : h.get k with
   | none => simp [hg] at h2
   | some q =>
    simp only [hg] at h2
    rw [of_decide_eq_true h2]
 · rw [freeB_ok hf k (by rw [hn]; exact h1) hk] at ho
   cases ho
theorem merged_ok {h hs hs' : Hp} (hb : h.n ≤ 2 ^ D) (hfree : ∀ k, h.n ≤ k → k < 2 ^ D → h.get k = none) (hp : Part h hs) : Merged h hs hs' (mergeH h hs' (extras hs h)) := by
 have hl : ∀ k ∈ extras hs h, k < 2 ^ D := fun k hk => Nat.lt_of_lt_of_le (mem_extras.1 hk).1 hb
 refine ⟨rfl, fun k o hk ho hs0 => ?_, fun k hk hc => ?_⟩
 · have hkn : k < h.n := by
    rcases Nat.lt_or_ge k h.n with h1 | h1
    · exact h1
    · rw [hfree k h1 hk] at ho
      cases ho
   have h1 : k ∈ extras hs h := mem_extras.2 ⟨hkn, hs0, o, ho⟩
   exact (fold_in h _ _ k hl hk h1).trans ho
 · have h1 : k ∉ extras hs h := by
    intro hm
    obtain ⟨_, h2, o, h3⟩ := mem_extras.1 hm
    rcases hc with hc | ⟨q, hc⟩
    · rw [hc] at h3
      cases h3
    · rw [hc] at h2
      cases h2
   exact fold_other h _ _ k hl hk h1
theorem memoF_ok {S : Sy} {z : Base} {F : Nat} {X : List AV} {hs : Hp} {R : AV × Hp} {ex : CallT} {K : Hk} {n : Nat} (h1 : ∀ z, @HkOk S Tryz.prog z K) (h2 : chkM R (callG Tryz.prog K (evG Tryz.prog K n) F X hs) = true) (hf : freeB R.2 = true) (hf0 : freeB hs = true) (h3 : @CallOk S Tryz.prog z ex) : @CallOk S Tryz.prog z (memoF F X hs R ex) := by
 intro f xs h y h' hc E w vs hvs hr
 unfold memoF at hc
 cases hb : Nat.beq f F with
 | false =>
  rw [hb] at hc
  exact h3 f xs h y h' hc E w vs hvs hr
 | true =>
  obtain rfl := Nat.eq_of_beq_eq_true hb
  rw [hb, cond_true] at hc
  split at hc
  · rename_i hx
    subst hx
    cases hpb : partB hs h with
    | false =>
     rw [hpb] at hc
     exact h3 f xs h y h' hc E w vs hvs hr
    | true =>
     rw [hpb, cond_true] at hc
     cases hc
     have hp := partB_ok hpb hf0
     unfold chkM at h2
     split at h2
     · rename_i v h'' he
       rw [Bool.and_eq_true] at h2
       have e1 : v = R.1 := of_decide_eq_true h2.1
       subst e1
       refine frame_call (hs' := R.2) (fun z hrz => ?_) hp (merged_ok (@Rep.bound S z E h w hr) (@Rep.free S z E h w hr) hp) hr
       exact (call_of S (h1 z) he E w vs hvs hrz).sub h2.2 hf
     · cases h2
  · exact h3 f xs h y h' hc E w vs hvs hr
end Go.Ev
namespace Go.Ev
open Go Go.RowKit Go.Proofs
def way17 : List Bool := [true, false, true, true]
def bN (d : Nat) : Nat := if d = 0 then 810 else 812
def casP : List Nat := [99, 97, 115, 32, 107, 32, 48, 32, 48, 32]
/-- What is asked ahead of Run. -/
def tabM (d : Nat) : List Rl := [
 .len 9 (.y (50 + d)) (.y (52 + d)), .bin .gtr (.y (52 + d)) (.i .i64 500) (.b false),
 .cnv 3 35 (.y (52 + d)) (.y (54 + d)),
 .bin .add (.s casP) (.y (56 + d)) (.y (58 + d)),
 .bin .add (.y (58 + d)) (.s [32]) (.y (60 + d)),
 .bin .add (.y (60 + d)) (.s [49]) (.y (62 + d)),
 .bin .add (.y (62 + d)) (.s [13, 10]) (.y (64 + d)),
 .bin .add (.y (64 + d)) (.y (50 + d)) (.y (66 + d)),
 .bin .add (.y (66 + d)) (.s [13, 10]) (.y (68 + d))]
/-- The picks. -/
def tabI0 (more : Bool) : List Rl := [.bin .lss (.y 23) (.y 22) (.b more)]
def tabI1 (neg : Bool) : List Rl := [.bin .lss (.y 23) (.y 22) (.b true), .bin .lss (.y 25) (.i .i64 0) (.b neg), .bin .add (.y 23) (.i .i64 1) (.y 26)]
def tabI2 (q : Nat) : List Rl := .bin .rem (.y 25) (.i .i64 3) (.i .i64 q) :: tabI1 false
/-- A step that has the cas of d. -/
def tabC (d : Nat) : List Rl := [
 .bin .lss (.y (74 + d)) (.i .i64 0) (.b false),
 .slc 23 (.y (72 + d)) none (some (.y (74 + d))) (.y (76 + d)),
 .len 23 (.y (76 + d)) (.y (74 + d)),
 .bin .geq (.y (74 + d)) (.i .i64 1) (.b true),
 .bin .sub (.y (74 + d)) (.i .i64 1) (.y (78 + d)),
 .slc 23 (.y (76 + d)) (some (.y (78 + d))) none (.y (80 + d)),
 .str 23 9 (.y (80 + d)) (bN d) (72 + d) (.s [13]),
 .slc 23 (.y (76 + d)) none (some (.y (78 + d))) (.y (82 + d)),
 .len 23 (.y (82 + d)) (.y (78 + d)),
 .bin .gtr (.y (78 + d)) (.i .i64 2048) (.b false),
 .str 23 9 (.y (82 + d)) (bN d) (72 + d) (.y (84 + d)),
 .bin .add (.y (74 + d)) (.i .i64 1) (.y (86 + d)),
 .slc 23 (.y (72 + d)) (some (.y (86 + d))) none (.y (88 + d)),
 .len 9 (.y (84 + d)) (.y (78 + d)),
 .bin .add (.y (78 + d)) (.i .i64 1) (.y (74 + d)),
 .bin .eql (.s [32]) (.y (84 + d)) (.b false),
 .slc 9 (.y (84 + d)) none (some (.i .i64 3)) (.s [99, 97, 115]),
 .slc 9 (.y (84 + d)) (some (.i .i64 4)) none (.y (90 + d)),
 .bin .eql (.s [32]) (.y (90 + d)) (.b false),
 .slc 9 (.y (90 + d)) none (some (.i .i64 1)) (.s [107]),
 .slc 9 (.y (90 + d)) (some (.i .i64 2)) none (.y (92 + d)),
 .bin .eql (.s [32]) (.y (92 + d)) (.b false),
 .slc 9 (.y (92 + d)) none (some (.i .i64 1)) (.s [48]),
 .slc 9 (.y (92 + d)) (some (.i .i64 2)) none (.y (94 + d)),
 .bin .eql (.s [32]) (.y (94 + d)) (.b false),
 .slc 9 (.y (94 + d)) none (some (.i .i64 1)) (.s [48]),
 .slc 9 (.y (94 + d)) (some (.i .i64 2)) none (.y (96 + d)),
 .bin .eql (.s [32]) (.y (96 + d)) (.b false),
 .bin .lss (.y (98 + d)) (.i .i64 0) (.b false),
 .bin .add (.y (98 + d)) (.i .i64 0) (.y (98 + d)),
 .bin .add (.y (98 + d)) (.i .i64 1) (.y (100 + d)),
 .slc 9 (.y (96 + d)) none (some (.y (98 + d))) (.y (56 + d)),
 .slc 9 (.y (96 + d)) (some (.y (100 + d))) none (.s [49]),
 .bin .neq (.y (56 + d)) (.s []) (.b true),
 .bin .gtr (.y (54 + d)) (.i .u64 2147483647) (.b false),
 .bin .gtr (.y (54 + d)) (.i .u64 1024) (.b false),
 .cnv 35 3 (.y (54 + d)) (.y (52 + d)),
 .bin .eql (.y (52 + d)) (.i .i64 (-1)) (.b false),
 .len 23 (.y (88 + d)) (.y (102 + d)),
 .bin .leq (.y (102 + d)) (.y (52 + d)) (.b false),
 .slc 23 (.y (88 + d)) (some (.y (52 + d))) none (.y (104 + d)),
 .ixa 23 (.y (104 + d)) (.i .i64 0) (.y (106 + d)),
 .lod 5 (.y (106 + d)) (bN d) (72 + d) (.i .u8 13),
 .len 23 (.y (104 + d)) (.i .i64 2),
 .ixa 23 (.y (104 + d)) (.i .i64 1) (.y (108 + d)),
 .lod 5 (.y (108 + d)) (bN d) (72 + d) (.i .u8 10),
 .slc 23 (.y (88 + d)) none (some (.y (52 + d))) (.y (110 + d)),
 .str 23 9 (.y (110 + d)) (bN d) (72 + d) (.y (50 + d)),
 .bin .add (.y (52 + d)) (.i .i64 2) (.y (102 + d)),
 .slc 23 (.y (88 + d)) (some (.y (102 + d))) none (.y (112 + d)),
 .len 9 (.y (50 + d)) (.y (52 + d)),
 .bin .leq (.y (52 + d)) (.i .i64 1024) (.b true),
 .bin .gtr (.y (52 + d)) (.i .i64 1024) (.b false),
 .bin .add (.i .i64 33) (.y (52 + d)) (.y (116 + d)),
 .bin .geq (.y (116 + d)) (.i .i64 0) (.b true)]
/-- The class of a size. -/
def tabK (d k : Nat) : List Rl := (List.range (k + 1)).map fun j => .bin .leq (.y (116 + d)) (.i .i64 (([64, 128, 256, 512, 1024] : List Int).getD j 0)) (.b (Nat.beq j k))
def t2C (d : Nat) : List R2 := [.mn (.i .i64 6) (.y (74 + d)) (.i .i64 6)]
def xlC (d : Nat) : List Xl := [⟨285, [.v (.one (.y (56 + d)))], none, .tup [.one (.y (54 + d)), .one (.b true)]⟩, ⟨319, [.v (.one (.y (84 + d))), .v (.one (.i .u8 32))], none, .v (.one (.i .i64 5))⟩,
 ⟨327, [.v (.one (.y (84 + d))), .v (.one (.i .u8 32))], none, .v (.one (.i .i64 3))⟩, ⟨327, [.v (.one (.y (90 + d))), .v (.one (.i .u8 32))], none, .v (.one (.i .i64 1))⟩, ⟨327, [.v (.one (.y (92 + d))), .v (.one (.i .u8 32))], none, .v (.one (.i .i64 1))⟩, ⟨327, [.v (.one (.y (94 + d))), .v (.one (.i .u8 32))], none, .v (.one (.i .i64 1))⟩, ⟨327, [.v (.one (.y (96 + d))), .v (.one (.i .u8 32))], none, .v (.one (.y (98 + d)))⟩,
 ⟨274, [.v (.one (.y (72 + d))), .v (.one (.i .u8 10))], some (bN d, 72 + d), .v (.one (.y (74 + d)))⟩]
/-- A step of one that is done: nothing waits. -/
def tabN (d : Nat) : List Rl := [.len 23 (.y (112 + d)) (.i .i64 0)]
def xlN (d : Nat) : List Xl := [⟨274, [.v (.one (.y (112 + d))), .v (.one (.i .u8 10))], none, .v (.one (.i .i64 (-1)))⟩]
def ruPk (A : Fr) (h : Hp) (o : Oper) : Option (AV × List U) := match o.op with
 | .indexAddr t x i => if t = 40 ∧ evA A x = some (.v (.one (.y 21))) ∧ evA A i = some (.v (.one (.y 23))) then some (.v (.one (.y 24)), []) else none
 | .load t x => if t = 3 ∧ evA A x = some (.v (.one (.y 24))) ∧ h.get 0 = some (.y 20) then some (.v (.one (.y 25)), []) else none
 | _ => none
def ru2 (p : Program) (tab : List Rl) (t2 : List R2) (A : Fr) (h : Hp) (o : Oper) : Option (AV × List U) := match ruT2 t2 A h o with
 | some r => some r
 | none => ruAll p tab A h o
def ruP (p : Program) (tab : List Rl) (A : Fr) (h : Hp) (o : Oper) : Option (AV × List U) := match ruPk A h o with
 | some r => some r
 | none => ruAll p tab A h o
/-- For the step's call. -/
noncomputable def KT (tab : List Rl) (t2 : List R2) (xl : List Xl) : Hk := ⟨exT xl (exI exB), ru2 Tryz.prog tab t2, pureT tab, lo0⟩
/-- For a pass. -/
noncomputable def KP (tab : List Rl) (ex : CallT) : Hk := ⟨ex, ruP Tryz.prog tab, pureT tab, lo0⟩
noncomputable def KP0 (tab : List Rl) : Hk := ⟨exI exB, ruAll Tryz.prog tab, pureT tab, lo0⟩
end Go.Ev
