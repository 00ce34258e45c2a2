/- The reckoner is right: code and calls. -/
import Derived.Test.YtbbefahmamnlcaaGreatDoorEv16
import Derived.LoopN
import Derived.Tactics
set_option linter.unusedVariables false
set_option linter.unusedSimpArgs false
set_option linter.unusedSectionVars false
namespace Go.Ev
open Go Go.RowKit
section
variable {E E' : List Ent} {A : Fr} {n : Nat} {a : Act} {P : Program} {w0 w w' ws : World} {h h0 : Hp}
theorem doDrawn_ok (hm : P.follows .mixedOrders = true) {call : CallT} (hcall : CallOk P w0 call) {id : Nat} {ops : Array Oper} {s s' : St} (hd : doDrawn P call ops s = some s') (ha : AR E s.A s.n a) (hr : Rep w0 E s.h w) {Q : Exit → Act → World → Prop} (hQ : ∀ c a w, ¬ Q (.panic c) a w)
  (hpost : ∀ E' a' w', Pre E E' → AR E' s'.A s'.n a' → Rep w0 E' s'.h w' → Q .normal a' w') : (Code.region id ops true).wp P Q a w := by
 obtain ⟨A, n, t, n0⟩ := s
 unfold doDrawn at hd
 simp only [fN_eq] at hd
 simp only at ha hr
 split at hd
 · rename_i hok
   simp only [Bool.and_eq_true] at hok
   split at hd
   · rename_i hmd
     split at hd
     · rename_i s1 fs hs hrun
       split at hd
       · rename_i hall
         cases hd
         have hlen : E.length = n0 := hr.len
         have hr1 : Rep w0 E ⟨t, n0⟩ { w with drawn := w.drawn + 1 } := hr.drew
         have hres := hr1.reserve (m := n0 + allocNo ops ops.size) (Nat.le_add_right _ _) hmd
         refine wp_region_any hm (wpAny_of_G (S := fun f w1 => ∀ x ∈ fs, x.1 = f → FactC (E ++ List.replicate (n0 + allocNo ops ops.size - n0) .none) { w with drawn := w.drawn + 1 } x w1) _ (fun _ => True) _ _ _ ?_)
         have hx : Ext E (E ++ List.replicate (n0 + allocNo ops ops.size - n0) Ent.none) := Ext.more E _
         exact runSch_ok hcall hok.2 (E0 := E ++ List.replicate (n0 + allocNo ops ops.size - n0) .none) (by rw [List.length_append, hlen]; omega) hres (FS := fs) (HS := hs) (fun x hx => List.all_eq_true.1 hall x hx) hQ _ _ _ _ _ _ _ hok.1 hrun (fun _ h => h) (fun _ h => h) _ a _ _ (ha.ext hx) hres ⟨Ext.refl _, fun _ _ => rfl⟩ (fun j o hj ho _ => by
          have hlt := allocNo_lt hj ho (Array.getElem?_eq_some_iff.1 hj).1
          rw [List.getElem?_append_right (by omega), List.getElem?_replicate, if_pos (by omega)]) (fun _ _ => trivial) (fun _ _ x _ _ b c _ vs _ hra => hra) (fun E' a' w' ha' hr' hag => hpost E' a' w' ⟨by
           have := hag.1.1
           rw [List.length_append] at this
           omega, fun k hk => by
           rw [hag.2 k (by omega), List.getElem?_append_left hk]⟩ ha' hr')
       · cases hd
     · cases hd
   · cases hd
 · cases hd
theorem doOps_ok {call : CallT} (hcall : CallOk P w0 call) {ops : Array Oper} {Q : Exit → Act → World → Prop} : ∀ (l : List Oper) (s s' : St) (E : List Ent) (a : Act) (w : World), doOps P call ops l s = some s' → AR E s.A s.n a → Rep w0 E s.h w →
  (∀ E' a' w', Pre E E' → AR E' s'.A s'.n a' → Rep w0 E' s'.h w' → Q .normal a' w') → wpList P ops Q l a w
 | [], s, s', E, a, w, hd, ha, hr, hpost => by
  cases hd
  exact hpost E a w (Pre.refl E) ha hr
 | o :: l, s, s', E, a, w, hd, ha, hr, hpost => by
  unfold doOps at hd
  cases h1 : doOp P call ops s o with
  | none => simp [h1] at hd
  | some s1 =>
   simp only [h1] at hd
   have hop := doOp_ok hcall (K := wpList P ops Q l) (Q := Q) h1 ha hr (fun E' a' w' hp ha' hr' => doOps_ok hcall l s1 s' E' a' w' hd ha' hr' (fun E2 a2 w2 hp2 => hpost E2 a2 w2 (hp.trans hp2)))
   unfold wpList
   split
   · rename_i hw
     rw [if_pos hw] at hop
     exact .inl hop
   · rename_i hw
     rw [if_neg hw] at hop
     exact hop
/-! ### A frame at its start -/
theorem setArgs_get : ∀ (xs : List AV) (i : Nat) (A : Fr), i + xs.length ≤ 256 → ∀ t, t < 256 → Tr.get DT (setArgs xs i A) t = if i ≤ t ∧ t < i + xs.length then xs[t - i]? else Tr.get DT A t
 | [], i, A, _, t, _ => by
  rw [if_neg (by simp only [List.length_nil]; omega)]
  rfl
 | x :: xs, i, A, hl, t, ht => by
  simp only [List.length_cons] at hl ⊢
  show Tr.get DT (setArgs xs (i + 1) (Tr.set DT A i (some x))) t = _
  rw [setArgs_get xs (i + 1) _ (by omega) t ht]
  by_cases h1 : t = i
  · subst h1
    rw [if_neg (by omega), if_pos (by omega), Tr.get_same, Nat.sub_self]
    rfl
  · by_cases h2 : i + 1 ≤ t ∧ t < i + 1 + xs.length
    · rw [if_pos h2, if_pos (by omega), show t - i = (t - (i + 1)) + 1 by omega, List.getElem?_cons_succ]
    · rw [if_neg h2, if_neg (by omega), Tr.get_other DT A i t _ (show i < 2 ^ 8 by omega) ht h1]
theorem enter_frame {xs : List AV} {vs : List Value} {m : Nat} (hv : All2 (VV E) xs vs) (hm : Nat.max m xs.length ≤ 256) : AR E (setArgs xs 0 (.lf none)) (Nat.max m xs.length) { tmps := vs.toArray ++ Array.replicate (m - vs.toArray.size) undef, defers := [] } := by
 have hlen : xs.length = vs.length := hv.length
 have hmax1 : m ≤ Nat.max m xs.length := Nat.le_max_left _ _
 have hmax2 : xs.length ≤ Nat.max m xs.length := Nat.le_max_right _ _
 refine ⟨?_, hm, rfl, fun t x ht hx => ?_⟩
 · simp only [Array.size_append, Array.size_replicate, List.size_toArray, ← hlen]
   rcases Nat.le_total m xs.length with h1 | h1
   · have : Nat.max m xs.length = xs.length := Nat.max_eq_right h1
     omega
   · have : Nat.max m xs.length = m := Nat.max_eq_left h1
     omega
 · rw [setArgs_get xs 0 _ (by omega) t ht] at hx
   split at hx
   · rename_i h1
     rw [Nat.sub_zero] at hx
     obtain ⟨v, h2, h3⟩ := hv.get t x hx
     refine ⟨v, ?_, h3⟩
     show (vs.toArray ++ Array.replicate (m - vs.toArray.size) undef)[t]? = some v
     rw [Array.getElem?_append_left (by simp only [List.size_toArray]; omega), List.getElem?_toArray]
     exact h2
   · rw [Tr.get_lf] at hx
     cases hx
/-! ### Results -/
theorem load_ok (hr : Rep w0 E h w) {t : TypeId} {x r : AV} {v : Value} (hv : VV E x v) (he : evLoad P t x h = some r) : ∃ ad u, v = .pointer (some ad) ∧ (loadVar t ad).run P w = .ok u w ∧ VV E r u := by
 unfold evLoad at he
 split at he
 · rename_i k q
   obtain ⟨b, c, hk, hv⟩ := hv
   cases hg : h.get k with
   | none => simp [hg] at he
   | some ob =>
    simp only [hg, Option.bind_some] at he
    split at he
    · rename_i l hl hag
      cases hy : l[q]? with
      | none => simp [hy] at he
      | some y =>
       simp only [hy, Option.map_some, Option.some.injEq] at he
       subst he
       obtain ⟨v, hvv, hc⟩ := cell_at hr hk hg hl hy
       exact ⟨_, v, hv, by simp [loadVar, run_agg hag, run_load, hc], hvv⟩
    · rename_i l hl hag
      split at he
      · rename_i m hm
        cases hs : seg l q m with
        | none => simp [hs] at he
        | some s =>
         simp only [hs, Option.map_some, Option.some.injEq] at he
         subst he
         obtain ⟨vs, hvs, hlen, hra⟩ := range_at hr hk hg hl hs
         have hl : (loadCells ⟨b, q, none⟩ vs.length).run P w = .ok vs.toArray w :=
          run_loadCells_list (P := P) w ⟨b, q, none⟩ vs (fun j v hv => by rw [Addr.add_mid]; exact hra j v hv)
         rw [hlen] at hl
         exact ⟨_, .agg vs.toArray, hv, by simp [loadVar, run_agg hag, run_size hm, hl], ⟨vs, hvs, rfl⟩⟩
      · cases he
    · cases he
 · cases he
theorem tup_ok : ∀ {xs : List AV} {ys : List A2} {us : List Value}, All2 (VV E) xs us → allSome asV2 xs = some ys → All2 (V2 E) ys us := by
 intro xs
 induction xs with
 | nil =>
  intro ys us h hy
  cases us with
  | nil => cases hy; trivial
  | cons _ _ => exact h.elim
 | cons x xs ih =>
  intro ys us h hy
  cases us with
  | nil => exact h.elim
  | cons u us =>
   unfold allSome at hy
   cases hx : asV2 x with
   | none => simp [hx] at hy
   | some y =>
    cases hz : allSome asV2 xs with
    | none => simp [hx, hz] at hy
    | some ys' =>
     simp only [hx, hz, Option.some.injEq] at hy
     subst hy
     refine ⟨?_, ih h.2 hz⟩
     cases x with
     | v z => cases hx; exact h.1
     | tup l => cases hx
/-- The value of one of a function's results. -/
def resM (tmps : Array Value) : ResultVar → Sem Value
 | .tmp t => pure (tmps.getD t undef)
 | .cell b t => do loadVar t (← asAddr (tmps.getD b undef))
def resA (P : Program) (A : Fr) (h : Hp) : ResultVar → Option AV
 | .tmp t => evA A (.tmp t)
 | .cell a t => (evA A (.tmp a)).bind fun x => evLoad P t x h
theorem res_ok (ha : AR E A n a) (hr : Rep w0 E h w) (r : ResultVar) (x : AV) (he : resA P A h r = some x) : ∃ u, (resM a.tmps r).run P w = .ok u w ∧ VV E x u := by
 cases r with
 | tmp t => exact ⟨_, rfl, evA_ok ha (.tmp t) x he⟩
 | cell b t =>
  have he : (evA A (.tmp b)).bind (fun x => evLoad P t x h) = some x := he
  cases hb : evA A (.tmp b) with
  | none => simp [hb] at he
  | some y =>
   simp only [hb, Option.bind_some] at he
   have hy := evA_ok ha (.tmp b) y hb
   obtain ⟨ad, u, h1, h2, h3⟩ := load_ok hr hy he
   refine ⟨u, ?_, h3⟩
   have h1 : a.tmps.getD b undef = .pointer (some ad) := h1
   simp only [resM, h1, asAddr, Sem.run_bind, Sem.run_pure, Result.andThen_ok, h2]
theorem resL_ok (ha : AR E A n a) (hr : Rep w0 E h w) : ∀ (l : List ResultVar) (xs : List AV), allSome (resA P A h) l = some xs → ∃ us : List Value, (l.mapM (resM a.tmps)).run P w = .ok us w ∧ All2 (VV E) xs us
 | [], xs, he => by
  cases he
  exact ⟨[], rfl, trivial⟩
 | r :: l, xs, he => by
  unfold allSome at he
  cases h1 : resA P A h r with
  | none => simp [h1] at he
  | some x =>
   cases h2 : allSome (resA P A h) l with
   | none => simp [h1, h2] at he
   | some ys =>
    simp only [h1, h2, Option.some.injEq] at he
    subst he
    obtain ⟨u, g1, g2⟩ := res_ok ha hr r x h1
    obtain ⟨us, g3, g4⟩ := resL_ok ha hr l ys h2
    exact ⟨u :: us, by simp only [List.mapM_cons, Sem.run_bind, g1, g3, Result.andThen_ok, Sem.run_pure], g2, g4⟩
theorem results_ok (ha : AR E A n a) (hr : Rep w0 E h w) {fn : Func} {v : AV} (he : resultsA P fn A h = some v) : ∃ u, (results fn a.tmps).run P w = .ok u w ∧ VV E v u := by
 have e1 : resultsA P fn A h = match allSome (resA P A h) fn.results.toList with
  | some [v] => some v
  | some vs => (allSome asV2 vs).map .tup
  | none => none := by
  have : (fun r : ResultVar => match r with
   | .tmp t => evA A (.tmp t)
   | .cell a t => (evA A (.tmp a)).bind fun x => evLoad P t x h) = resA P A h := by
   funext r
   cases r <;> rfl
  exact congrArg (fun g : ResultVar → Option AV => match allSome g fn.results.toList with
   | some [v] => some v
   | some vs => (allSome asV2 vs).map .tup
   | none => none) this
 rw [e1] at he
 have e2 : results fn a.tmps = (do
  let vs ← fn.results.mapM (resM a.tmps)
  pure (if h : vs.size = 1 then vs[0] else .tuple vs)) := by
  unfold results
  have : (fun r : ResultVar => match r with
   | .tmp t => (pure (a.tmps.getD t undef) : Sem Value)
   | .cell b t => do loadVar t (← asAddr (a.tmps.getD b undef))) = resM a.tmps := by
   funext r
   cases r <;> rfl
  exact congrArg (fun g : ResultVar → Sem Value => (do
   let vs ← fn.results.mapM g
   pure (if h : vs.size = 1 then vs[0] else .tuple vs) : Sem Value)) this
 have hmap : ∀ us : List Value, (fn.results.toList.mapM (resM a.tmps)).run P w = .ok us w → (fn.results.mapM (resM a.tmps)).run P w = .ok us.toArray w := by
  intro us hus
  have e3 : fn.results = fn.results.toList.toArray := by simp
  conv => lhs; rw [e3]
  rw [List.mapM_toArray, Sem.run_map, hus]
  rfl
 split at he
 · rename_i y hy
   cases he
   obtain ⟨us, g1, g2⟩ := resL_ok ha hr _ _ hy
   cases us with
   | nil => exact g2.elim
   | cons u us =>
    cases us with
    | cons _ _ => exact g2.2.elim
    | nil =>
     refine ⟨u, ?_, g2.1⟩
     rw [e2, Sem.run_bind, hmap _ g1]
     rfl
 · rename_i xs hne hy
   cases hz : allSome asV2 xs with
   | none => simp [hz] at he
   | some ys =>
    simp only [hz, Option.map_some, Option.some.injEq] at he
    subst he
    obtain ⟨us, g1, g2⟩ := resL_ok ha hr _ _ hy
    refine ⟨.tuple us.toArray, ?_, us, tup_ok g2 hz, rfl⟩
    rw [e2, Sem.run_bind, hmap _ g1]
    have hsz : ¬ us.toArray.size = 1 := by
     intro h1
     have h2 := g2.length
     simp only [List.size_toArray] at h1
     rw [h1] at h2
     obtain ⟨x, rfl⟩ := List.length_eq_one_iff.1 h2
     exact hne x rfl
    simp only [Result.andThen_ok, Sem.run_pure, dif_neg hsz]
 · cases he
/-! ### Code -/
def toExit : X → Exit
 | .normal => .normal
 | .exit id => .exit id
 | .ret => .ret
def Post (w0 : World) (E : List Ent) (x : X) (s : St) : Exit → Act → World → Prop := fun e a' w' => e = toExit x ∧ ∃ E', Pre E E' ∧ AR E' s.A s.n a' ∧ Rep w0 E' s.h w'
theorem Post.pre {x : X} {s : St} {e : Exit} (hp : Pre E E') (h : Post w0 E' x s e a w) : Post w0 E x s e a w := by
 obtain ⟨h1, E2, h2, h3, h4⟩ := h
 exact ⟨h1, E2, hp.trans h2, h3, h4⟩
theorem Post.noPanic {x : X} {s : St} (c : List PanicEntry) (a : Act) (w : World) : ¬ Post w0 E x s (.panic c) a w := by
 rintro ⟨h, _⟩
 cases x <;> cases h
def CodeOk (P : Program) (w0 : World) (ev : Code → St → Option (X × St)) : Prop := ∀ (c : Code) (s s' : St) (x : X), ev c s = some (x, s') → ∀ (E : List Ent) (a : Act) (w : World), AR E s.A s.n a → Rep w0 E s.h w → c.wp P (Post w0 E x s') a w
theorem callA_ok {ext : CallT} (hext : CallOk P w0 ext) (hng : ∀ (f : Nat) (fn : Func), P.funcs[f]? = some fn → (fn.name == "runtime.NumGoroutine") = false) {ev : Code → St → Option (X × St)} (hev : CodeOk P w0 ev) : CallOk P w0 (callA P ext ev) := by
 intro f xs h y h' hc E w vs hvs hr
 unfold callA at hc
 split at hc
 · rename_i r hk
   cases hc
   exact hext f xs h y h' hk E w vs hvs hr
 · rename_i hk
   split at hc
   · rename_i fn hf
     split at hc
     · rename_i b hb
       split at hc
       · rename_i hmax
         rw [fArgs_eq] at hc
         have hrun : (callFunc f vs.toArray).run P w = .ok (.enter f vs.toArray) w := by
          simp only [callFunc, Sem.run_bind, run_program, Result.andThen_ok, hf, hng f fn hf, Bool.false_eq_true, if_false, hb, Option.isNone_some, Sem.run_pure]
         have go : ∀ (x : X) (s' : St), (x = .normal ∨ x = .ret) → ev b ⟨setArgs xs 0 (.lf none), Nat.max fn.ntmps xs.length, h⟩ = some (x, s') → (resultsA P fn s'.A s'.h).map (fun v => (v, s'.h)) = some (y, h') → CallDoes P w0 E f vs.toArray w y h' := by
          intro x s' hx he hres
          cases hv : resultsA P fn s'.A s'.h with
          | none => simp [hv] at hres
          | some v =>
           simp only [hv, Option.map_some, Option.some.injEq, Prod.mk.injEq] at hres
           obtain ⟨rfl, rfl⟩ := hres
           refine .inl ⟨hrun, calls_of_wp hf hb ?_⟩
           refine wp_mono (hev b _ s' x he E _ w (enter_frame hvs hmax) hr) ?_
           rintro e a' w' ⟨rfl, E', hp, ha', hr'⟩
           obtain ⟨u, h1, h2⟩ := results_ok ha' hr' hv
           rcases hx with rfl | rfl
           · exact ⟨ha'.defers, u, h1, u, rfl, E', hp, hr', h2⟩
           · exact ⟨ha'.defers, u, h1, u, rfl, E', hp, hr', h2⟩
         split at hc
         · rename_i s' he
           exact go .normal s' (.inl rfl) he hc
         · rename_i s' he
           exact go .ret s' (.inr rfl) he hc
         · cases hc
       · cases hc
     · cases hc
   · cases hc
theorem rounds_mono {c : Code} {Q Q' : Exit → Act → World → Prop} (hq : ∀ e a w, Q e a w → Q' e a w) : ∀ (n : Nat) (a : Act) (w : World), Code.rounds P c Q n a w → Code.rounds P c Q' n a w
 | 0, _, _, h => h
 | n + 1, a, w, h => by
  rw [rounds_succ] at h ⊢
  refine wp_mono h ?_
  intro e a' w' hx
  cases e with
  | normal => exact rounds_mono hq n a' w' hx
  | exit id => exact hq _ _ _ hx
  | goto l => exact hq _ _ _ hx
  | ret => exact hq _ _ _ hx
  | panic ch => exact hq _ _ _ hx
  | outgrown => exact hq _ _ _ hx
theorem evCode_ok (hm : P.follows .mixedOrders = true) {ext : CallT} (hext : CallOk P w0 ext) (hng : ∀ (f : Nat) (fn : Func), P.funcs[f]? = some fn → (fn.name == "runtime.NumGoroutine") = false) : ∀ n, CodeOk P w0 (evCode P ext n) ∧ ∀ (b : Code) (s s' : St) (x : X), evCode P ext n (.loop b) s = some (x, s') → ∀ (E : List Ent) (a : Act) (w : World), AR E s.A s.n a → Rep w0 E s.h w → Code.rounds P b (Post w0 E x s') n a w := by
 intro n
 induction n with
 | zero => exact ⟨fun c s s' x h => (nomatch h), fun b s s' x h => (nomatch h)⟩
 | succ n ih =>
  obtain ⟨ih1, ih2⟩ := ih
  have hcall := callA_ok hext hng ih1
  have hloop : ∀ (b : Code) (s s' : St) (x : X), evCode P ext (n + 1) (.loop b) s = some (x, s') → ∀ (E : List Ent) (a : Act) (w : World), AR E s.A s.n a → Rep w0 E s.h w → Code.rounds P b (Post w0 E x s') (n + 1) a w := by
   intro b s s' x he E a w ha hr
   unfold evCode at he
   simp only at he
   rw [rounds_succ]
   split at he
   · rename_i s1 h1
     refine wp_mono (ih1 b s s1 .normal h1 E a w ha hr) ?_
     rintro e a' w' ⟨rfl, E', hp, ha', hr'⟩
     exact rounds_mono (fun e a w h => Post.pre hp h) n a' w' (ih2 b s1 s' x he E' a' w' ha' hr')
   · rename_i r hne
     cases hx : x with
     | normal =>
      subst hx
      exact (hne s' he).elim
     | exit id =>
      subst hx
      refine wp_mono (ih1 b s s' _ he E a w ha hr) ?_
      rintro e a' w' ⟨rfl, h⟩
      exact ⟨rfl, h⟩
     | ret =>
      subst hx
      refine wp_mono (ih1 b s s' _ he E a w ha hr) ?_
      rintro e a' w' ⟨rfl, h⟩
      exact ⟨rfl, h⟩
  refine ⟨?_, hloop⟩
  intro c s s' x he E a w ha hr
  have he0 := he
  unfold evCode at he
  skip
  split at he
  · cases he
    exact wp_skip ⟨rfl, E, Pre.refl E, ha, hr⟩
  · cases he
    exact wp_label ⟨rfl, E, Pre.refl E, ha, hr⟩
  · rename_i id ops
    split at he
    · rename_i s1 h1
      injection he with he
      injection he with e1 e2
      subst e1
      subst e2
      exact wp_region_list (doOps_ok hcall _ s s1 E a w h1 ha hr (fun E' a' w' hp ha' hr' => ⟨rfl, E', hp, ha', hr'⟩))
    · cases he
  · rename_i id ops
    split at he
    · rename_i s1 h1
      injection he with he
      injection he with e1 e2
      subst e1
      subst e2
      exact doDrawn_ok hm hcall h1 ha hr Post.noPanic (fun E' a' w' hp ha' hr' => ⟨rfl, E', hp, ha', hr'⟩)
    · cases he
  · rename_i c1 c2
    refine wp_seq ?_
    split at he
    · rename_i s1 h1
      refine wp_mono (ih1 c1 s s1 .normal h1 E a w ha hr) ?_
      rintro e a' w' ⟨rfl, E', hp, ha', hr'⟩
      exact wp_mono (ih1 c2 s1 s' x he E' a' w' ha' hr') (fun e a w h => Post.pre hp h)
    · rename_i r hne
      cases hx : x with
      | normal =>
       subst hx
       exact (hne s' he).elim
      | exit id =>
       subst hx
       refine wp_mono (ih1 c1 s s' _ he E a w ha hr) ?_
       rintro e a' w' ⟨rfl, h⟩
       exact ⟨rfl, h⟩
      | ret =>
       subst hx
       refine wp_mono (ih1 c1 s s' _ he E a w ha hr) ?_
       rintro e a' w' ⟨rfl, h⟩
       exact ⟨rfl, h⟩
  · rename_i y c1 c2
    split at he
    · rename_i hy
      exact wp_cond_true (evA_ok ha y _ hy) (ih1 c1 s s' x he E a w ha hr)
    · rename_i hy
      exact wp_cond_false (evA_ok ha y _ hy) (ih1 c2 s s' x he E a w ha hr)
    · cases he
  · rename_i id b
    refine wp_block ?_
    split at he
    · rename_i j s1 h1
      refine wp_mono (ih1 b s s1 _ h1 E a w ha hr) ?_
      rintro e a' w' ⟨rfl, h⟩
      show if j = id then _ else _
      split at he
      · rename_i hj
        cases he
        rw [if_pos hj]
        exact ⟨rfl, h⟩
      · rename_i hj
        cases he
        rw [if_neg hj]
        exact ⟨rfl, h⟩
    · rename_i r hne
      cases hx : x with
      | normal =>
       subst hx
       refine wp_mono (ih1 b s s' _ he E a w ha hr) ?_
       rintro e a' w' ⟨rfl, h⟩
       exact ⟨rfl, h⟩
      | exit j =>
       subst hx
       exact (hne j s' he).elim
      | ret =>
       subst hx
       refine wp_mono (ih1 b s s' _ he E a w ha hr) ?_
       rintro e a' w' ⟨rfl, h⟩
       exact ⟨rfl, h⟩
  · rename_i b
    exact wp_loop_rounds (n + 1) (hloop b s s' x he0 E a w ha hr)
  · cases he
    exact wp_exit ⟨rfl, E, Pre.refl E, ha, hr⟩
  · cases he
    exact wp_ret ⟨rfl, E, Pre.refl E, ha, hr⟩
  · cases he
end
end Go.Ev
