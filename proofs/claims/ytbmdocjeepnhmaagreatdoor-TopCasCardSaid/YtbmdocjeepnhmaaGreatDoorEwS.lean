/- A faster reckoner, the same by proof: orders by masks. -/
import Derived.Test.YtbmdocjeepnhmaaGreatDoorEwF1
import Derived.Test.YtbmdocjeepnhmaaGreatDoorEwX
set_option linter.unusedVariables false
set_option linter.unusedSimpArgs false
set_option linter.unusedSectionVars false
namespace Go.Ev
open Go Go.RowKit
/-! ### Masks -/
def bit1 (d : Nat) : Nat := Nat.shiftLeft 1 d
def maskL (l : List Nat) : Nat := l.foldr (fun a m => Nat.lor (bit1 a) m) 0
def bitD (o : Option Nat) : Nat := match o with
 | some d => bit1 d
 | none => 0
theorem testBit_bit1 (d i : Nat) : Nat.testBit (bit1 d) i = decide (d = i) := by
 show Nat.testBit (1 <<< d) i = _
 rw [Nat.one_shiftLeft, Nat.testBit_two_pow]
theorem testBit_maskL (i : Nat) : ∀ (l : List Nat), Nat.testBit (maskL l) i = l.contains i
 | [] => by simp [maskL]
 | a :: l => by
  have ih := testBit_maskL i l
  show Nat.testBit (bit1 a ||| maskL l) i = _
  rw [Nat.testBit_or, ih, testBit_bit1, List.contains_cons]
  by_cases h : a = i
  · subst h
    simp
  · have : (i == a) = false := by simpa using fun e => h e.symm
    rw [this]
    simp [h]
def no1 (m b : Nat) : Bool := Nat.beq (Nat.land m b) 0
theorem no1_bit (m d : Nat) : no1 m (bit1 d) = !Nat.testBit m d := by
 unfold no1
 cases h : Nat.testBit m d with
 | false =>
  have : Nat.land m (bit1 d) = 0 := by
   apply Nat.eq_of_testBit_eq
   intro i
   show Nat.testBit (m &&& bit1 d) i = _
   rw [Nat.testBit_and, testBit_bit1, Nat.zero_testBit]
   by_cases hi : d = i
   · subst hi
     simp [h]
   · simp [hi]
  rw [this]
  rfl
 | true =>
  cases hb : Nat.beq (Nat.land m (bit1 d)) 0 with
  | false => rfl
  | true =>
   have h1 := Nat.eq_of_beq_eq_true hb
   have h2 : Nat.testBit (m &&& bit1 d) d = false := by
    show Nat.testBit (Nat.land m (bit1 d)) d = false
    rw [h1, Nat.zero_testBit]
   rw [Nat.testBit_and, testBit_bit1, h] at h2
   simp at h2
def subM (d m : Nat) : Bool := Nat.beq (Nat.land m d) d
theorem subM_iff (d m : Nat) : subM d m = true ↔ ∀ i, Nat.testBit d i = true → Nat.testBit m i = true := by
 unfold subM
 rw [Nat.beq_eq]
 constructor
 · intro h i hi
   have : Nat.testBit (m &&& d) i = Nat.testBit d i := congrArg (fun x => Nat.testBit x i) h
   rw [Nat.testBit_and, hi] at this
   simpa using this
 · intro h
   show m &&& d = d
   apply Nat.eq_of_testBit_eq
   intro i
   rw [Nat.testBit_and]
   cases hd : Nat.testBit d i with
   | false => simp
   | true => rw [h i hd]; rfl
/-! ### What is to be known of an operation -/
structure Sm where
 bit : Nat
 dep : Nat
 dst : Nat
 look : Nat
 tk : Bool
section
variable (P : Program)
def depOf (o : Oper) : Nat := maskL ((o.after.toList.filter (Region.binds .any)).map (·.on))
def smOf (ops : Array Oper) (i : Nat) (o : Oper) : Sm := ⟨bit1 i, depOf o, bitD o.dst, maskL (o.looksAt ops), takeable P o⟩
def smL (ops : Array Oper) : List Oper → Nat → List Sm
 | [], _ => []
 | o :: l, i => smOf P ops i o :: smL ops l (Nat.succ i)
end
def readyL : List Sm → Nat → Nat → List Nat
 | [], _, _ => []
 | s :: l, i, m => bif no1 m s.bit then (bif subM s.dep m then i :: readyL l (Nat.succ i) m else readyL l (Nat.succ i) m) else readyL l (Nat.succ i) m
/-- The masks stand for the list of what is done. -/
def ML (n : Nat) (listed : Array Bool) (m : Nat) : Prop := listed.size = n ∧ (∀ j, j < n → listed.getD j true = Nat.testBit m j) ∧ ∀ j, n ≤ j → Nat.testBit m j = false
theorem ML.get {n : Nat} {listed : Array Bool} {m : Nat} (h : ML n listed m) (j : Nat) : listed.getD j false = Nat.testBit m j := by
 by_cases hj : j < n
 · rw [← h.2.1 j hj]
   have : j < listed.size := by rw [h.1]; exact hj
   simp [Array.getD, this]
 · rw [h.2.2 j (by omega)]
   have : ¬ j < listed.size := by rw [h.1]; exact hj
   simp [Array.getD, this]
theorem ML.start (n : Nat) : ML n (Array.replicate n false) 0 := ⟨by simp, fun j hj => by simp [Array.getD, hj], fun j _ => Nat.zero_testBit j⟩
theorem ML.set {n : Nat} {listed : Array Bool} {m i : Nat} (h : ML n listed m) (hi : i < n) : ML n (listed.setIfInBounds i true) (Nat.lor m (bit1 i)) := by
 refine ⟨by simp [h.1], fun j hj => ?_, fun j hj => ?_⟩
 · show _ = Nat.testBit (m ||| bit1 i) j
   rw [Nat.testBit_or, testBit_bit1, ← h.2.1 j hj]
   have hjs : j < listed.size := by rw [h.1]; exact hj
   rw [Array.getD_eq_getD_getElem?, Array.getD_eq_getD_getElem?, Array.getElem?_setIfInBounds]
   by_cases hij : i = j
   · subst hij
     simp [hjs]
   · simp [hij]
 · show Nat.testBit (m ||| bit1 i) j = _
   rw [Nat.testBit_or, testBit_bit1, h.2.2 j hj]
   have : ¬ i = j := by omega
   simp [this]
theorem testBit_dep (o : Oper) (i : Nat) : Nat.testBit (depOf o) i = true ↔ ∃ e ∈ o.after, Region.binds .any e = true ∧ e.on = i := by
 unfold depOf
 rw [testBit_maskL, List.contains_iff_mem]
 simp only [List.mem_map, List.mem_filter, Array.mem_toList_iff]
 constructor
 · rintro ⟨e, ⟨h1, h2⟩, h3⟩
   exact ⟨e, h1, h2, h3⟩
 · rintro ⟨e, h1, h2, h3⟩
   exact ⟨e, ⟨h1, h2⟩, h3⟩
section
variable {P : Program} {ops : Array Oper} {listed : Array Bool} {m : Nat}
/-- Is it ready? -/
def rdy (ops : Array Oper) (listed : Array Bool) (i : Nat) : Bool := !listed.getD i true && ((ops[i]?).map (·.after.all fun e => !Region.binds .any e || listed.getD e.on false)).getD false
theorem rdy_eq (h : ML ops.size listed m) {i : Nat} {o : Oper} (ho : ops[i]? = some o) : rdy ops listed i = (no1 m (bit1 i) && subM (depOf o) m) := by
 have hi : i < ops.size := (Array.getElem?_eq_some_iff.1 ho).1
 unfold rdy
 rw [no1_bit, h.2.1 i hi, ho]
 congr 1
 simp only [Option.map_some, Option.getD_some]
 rw [Bool.eq_iff_iff, subM_iff, Array.all_eq_true_iff_forall_mem]
 constructor
 · intro hall j hj
   obtain ⟨e, he, hb, rfl⟩ := (testBit_dep o j).1 hj
   have := hall e he
   rw [hb, h.get] at this
   simpa using this
 · intro hsub e he
   cases hb : Region.binds .any e with
   | false => rfl
   | true =>
    have := hsub e.on ((testBit_dep o e.on).2 ⟨e, he, hb, rfl⟩)
    rw [h.get, this]
    rfl
theorem readyL_eq (h : ML ops.size listed m) : ∀ (l : List Oper) (i : Nat), (∀ j o, l[j]? = some o → ops[i + j]? = some o) → readyL (smL P ops l i) i m = (List.range' i l.length).filter (rdy ops listed)
 | [], _, _ => rfl
 | o :: l, i, hl => by
  have ho := hl 0 o rfl
  simp only [Nat.add_zero] at ho
  have ih := readyL_eq h l (i + 1) (fun j q hq => by
   have := hl (j + 1) q (by simpa using hq)
   rwa [show i + 1 + j = i + (j + 1) by omega])
  rw [List.length_cons, List.range'_succ, List.filter_cons, rdy_eq h ho]
  show (bif no1 m (bit1 i) then (bif subM (depOf o) m then i :: readyL (smL P ops l (i + 1)) (i + 1) m else readyL (smL P ops l (i + 1)) (i + 1) m) else readyL (smL P ops l (i + 1)) (i + 1) m) = _
  rw [ih]
  cases no1 m (bit1 i) <;> cases subM (depOf o) m <;> rfl
theorem ready_eq (h : ML ops.size listed m) : readyL (smL P ops ops.toList 0) 0 m = Region.ready .any ops listed := by
 rw [readyL_eq h ops.toList 0 (fun j o hj => by rw [Nat.zero_add, ← Array.getElem?_toList]; exact hj)]
 show _ = (List.range ops.size).filter (rdy ops listed)
 rw [List.range_eq_range', Array.length_toList]
end
def nthS : List Sm → Nat → Option Sm
 | [], _ => none
 | s :: _, 0 => some s
 | _ :: l, Nat.succ i => nthS l i
def apartS (x y : Sm) : Bool := no1 y.look x.dst && no1 y.dst x.dst && no1 x.look y.dst
/-- Is nothing that is left in the way of x? -/
def freeL (x : Sm) (m : Nat) : List Sm → Bool
 | [] => true
 | y :: l => (bif Nat.beq x.bit y.bit then true else bif no1 m y.bit then (bif no1 y.dep x.bit then apartS x y else true) else true) && freeL x m l
section
variable {P : Program} {ops : Array Oper} {listed : Array Bool} {m : Nat}
theorem no1_bitD (k : Nat) (d : Option Nat) : no1 k (bitD d) = match d with | some d => !Nat.testBit k d | none => true := by
 cases d with
 | some d => exact no1_bit k d
 | none =>
  show Nat.beq (Nat.land k 0) 0 = true
  rw [Nat.beq_eq]
  exact Nat.and_zero k
theorem apart_eq (x y : Oper) (i j : Nat) : apartS (smOf P ops i x) (smOf P ops j y) = x.apart ops y := by
 unfold apartS Oper.apart
 show (no1 (maskL (y.looksAt ops)) (bitD x.dst) && no1 (bitD y.dst) (bitD x.dst) && no1 (maskL (x.looksAt ops)) (bitD y.dst)) = _
 rw [no1_bitD, no1_bitD, no1_bitD]
 cases hx : x.dst with
 | none =>
  cases hy : y.dst with
  | none => rfl
  | some e => simp only [testBit_maskL, Bool.true_and]
 | some d =>
  cases hy : y.dst with
  | none =>
   simp only [testBit_maskL, Bool.and_true]
   show (!(y.looksAt ops).contains d && !Nat.testBit 0 d) = _
   rw [Nat.zero_testBit]
   rfl
  | some e =>
   simp only [testBit_maskL]
   show (!(y.looksAt ops).contains d && !Nat.testBit (bit1 e) d && !(x.looksAt ops).contains e) = _
   rw [testBit_bit1]
   have h1 : (some e != some d) = !decide (e = d) := by
    by_cases hed : e = d
    · subst hed
      simp
    · simp [hed]
   simp only [h1]
/-- What is asked of one that is left. -/
def frees (ops : Array Oper) (listed : Array Bool) (i : Nat) (oi : Oper) (j : Nat) : Bool := j == i || listed.getD j true || match ops[j]? with
      | some oj => oj.after.any (fun e => Region.binds .any e && e.on == i) || oi.apart ops oj
      | none => true
theorem bit1_inj {i j : Nat} (h : bit1 i = bit1 j) : i = j := by
 have := testBit_bit1 j i
 rw [← h, testBit_bit1] at this
 simp at this
 exact this.symm
theorem frees_eq (h : ML ops.size listed m) {i j : Nat} {oi oj : Oper} (hj : ops[j]? = some oj) : (bif Nat.beq (bit1 i) (bit1 j) then true else bif no1 m (bit1 j) then (bif no1 (depOf oj) (bit1 i) then apartS (smOf P ops i oi) (smOf P ops j oj) else true) else true) = frees ops listed i oi j := by
 have hjn : j < ops.size := (Array.getElem?_eq_some_iff.1 hj).1
 unfold frees
 rw [hj, h.2.1 j hjn, no1_bit, no1_bit, apart_eq]
 have he : (oj.after.any fun e => Region.binds .any e && e.on == i) = Nat.testBit (depOf oj) i := by
  rw [Bool.eq_iff_iff, testBit_dep, Array.any_eq_true']
  constructor
  · rintro ⟨e, h1, h2⟩
    simp only [Bool.and_eq_true, beq_iff_eq] at h2
    exact ⟨e, h1, h2⟩
  · rintro ⟨e, h1, h2⟩
    exact ⟨e, h1, by simp only [Bool.and_eq_true, beq_iff_eq]; exact h2⟩
 simp only [he]
 by_cases hij : j = i
 · subst hij
   simp
 · have : Nat.beq (bit1 i) (bit1 j) = false := by
    cases hb : Nat.beq (bit1 i) (bit1 j) with
    | false => rfl
    | true => exact absurd (bit1_inj (Nat.eq_of_beq_eq_true hb)).symm hij
   have h2 : (j == i) = false := by simpa using hij
   rw [this, h2]
   cases Nat.testBit m j <;> cases Nat.testBit (depOf oj) i <;> rfl
theorem freeL_eq (h : ML ops.size listed m) {i : Nat} {oi : Oper} : ∀ (l : List Oper) (j : Nat), (∀ k o, l[k]? = some o → ops[j + k]? = some o) → freeL (smOf P ops i oi) m (smL P ops l j) = (List.range' j l.length).all (frees ops listed i oi)
 | [], _, _ => rfl
 | o :: l, j, hl => by
  have ho := hl 0 o rfl
  simp only [Nat.add_zero] at ho
  have ih := freeL_eq h (i := i) (oi := oi) l (j + 1) (fun k q hq => by
   have := hl (k + 1) q (by simpa using hq)
   rwa [show j + 1 + k = j + (k + 1) by omega])
  rw [List.length_cons, List.range'_succ, List.all_cons, ← ih, ← frees_eq (P := P) h ho]
  rfl
theorem nthS_eq : ∀ (l : List Oper) (j i : Nat), nthS (smL P ops l j) i = (l[i]?).map (smOf P ops (j + i))
 | [], _, _ => rfl
 | o :: l, j, 0 => rfl
 | o :: l, j, i + 1 => by
  show nthS (smL P ops l (j + 1)) i = _
  rw [nthS_eq l (j + 1) i, List.getElem?_cons_succ, show j + 1 + i = j + (i + 1) by omega]
end
/-- Is one that is left free? -/
def freeS (sm : List Sm) (m i : Nat) : Bool := match nthS sm i with
 | some x => freeL x m sm
 | none => false
theorem freeS_eq {P : Program} {ops : Array Oper} {listed : Array Bool} {m : Nat} (h : ML ops.size listed m) (i : Nat) : freeS (smL P ops ops.toList 0) m i = Region.free .any ops listed i := by
 unfold freeS Region.free
 rw [nthS_eq, Array.getElem?_toList]
 cases ho : ops[i]? with
 | none => rfl
 | some o =>
  simp only [Option.map_some, Nat.zero_add]
  rw [freeL_eq h ops.toList 0 (fun j o hj => by rw [Nat.zero_add, ← Array.getElem?_toList]; exact hj)]
  show _ = (List.range ops.size).all (frees ops listed i o)
  rw [List.range_eq_range', Array.length_toList]
def tkS (sm : List Sm) (m i : Nat) : Bool := match nthS sm i with
 | some x => x.tk && freeL x m sm
 | none => false
theorem tkS_eq {P : Program} {ops : Array Oper} {listed : Array Bool} {m : Nat} (h : ML ops.size listed m) (i : Nat) : tkS (smL P ops ops.toList 0) m i = match ops[i]? with
      | some o => takeable P o && Region.free .any ops listed i
      | none => false := by
 have hf := freeS_eq (P := P) h i
 unfold freeS at hf
 unfold tkS
 rw [nthS_eq, Array.getElem?_toList] at hf ⊢
 cases ho : ops[i]? with
 | none => rfl
 | some o =>
  rw [ho] at hf
  simp only [Option.map_some] at hf ⊢
  rw [hf]
  rfl
/-- The order, by masks. -/
def schS (sm : List Sm) : Nat → Nat → Sch
 | 0, _ => .done
 | n + 1, m => match readyL sm 0 m with
   | [] => .done
   | [i] => .one i (fN (Nat.lor m (bit1 i)) fun m => schS sm n m)
   | rs => match rs.find? (tkS sm m) with
     | some i => .take i (fN (Nat.lor m (bit1 i)) fun m => schS sm n m)
     | none => match rs with
       | [i, j] => .two i j (fN (Nat.lor m (bit1 i)) fun m => schS sm n m) (fN (Nat.lor m (bit1 j)) fun m => schS sm n m)
       | _ => .done
def okS (sm : List Sm) : Nat → Sch → Nat → Bool
 | _, .done, m => (readyL sm 0 m).isEmpty
 | n + 1, .take i l, m => (readyL sm 0 m).contains i && freeS sm m i && fN (Nat.lor m (bit1 i)) fun m => okS sm n l m
 | n + 1, .one i l, m => (readyL sm 0 m == [i]) && fN (Nat.lor m (bit1 i)) fun m => okS sm n l m
 | n + 1, .two i j l k, m => (readyL sm 0 m == [i, j]) && (fN (Nat.lor m (bit1 i)) fun m => okS sm n l m) && fN (Nat.lor m (bit1 j)) fun m => okS sm n k m
 | 0, _, _ => false
section
variable {P : Program} {ops : Array Oper}
theorem in_ready {listed : Array Bool} {i : Nat} (h : i ∈ Region.ready .any ops listed) : i < ops.size := by
 unfold Region.ready at h
 exact List.mem_range.1 (List.mem_filter.1 h).1
theorem schS_eq : ∀ (n : Nat) (listed : Array Bool) (m : Nat), ML ops.size listed m → schS (smL P ops ops.toList 0) n m = sched P ops n listed
 | 0, _, _, _ => rfl
 | n + 1, listed, m, h => by
  have hr := ready_eq (P := P) h
  have hin : ∀ i, i ∈ readyL (smL P ops ops.toList 0) 0 m → schS (smL P ops ops.toList 0) n (Nat.lor m (bit1 i)) = sched P ops n (listed.setIfInBounds i true) := fun i hi => schS_eq n _ _ (h.set (in_ready (by rw [← hr]; exact hi)))
  have htk : tkS (smL P ops ops.toList 0) m = fun i => match ops[i]? with
      | some o => takeable P o && Region.free .any ops listed i
      | none => false := funext fun i => tkS_eq h i
  unfold schS sched
  rw [← hr]
  generalize hrs : readyL (smL P ops ops.toList 0) 0 m = rs at hin
  simp only [fN_eq, htk]
  cases rs with
  | nil => rfl
  | cons a t =>
   cases t with
   | nil =>
    simp only
    rw [hin a (by simp)]
   | cons b u =>
    simp only
    cases hf : (a :: b :: u).find? (fun i => match ops[i]? with
      | some o => takeable P o && Region.free .any ops listed i
      | none => false) with
    | some i =>
     simp only
     rw [hin i (List.mem_of_find?_eq_some hf)]
    | none =>
     cases u with
     | nil =>
      simp only
      rw [hin a (by simp), hin b (by simp)]
     | cons _ _ => rfl
theorem okS_eq : ∀ (s : Sch) (n : Nat) (listed : Array Bool) (m : Nat), ML ops.size listed m → okS (smL P ops ops.toList 0) n s m = schedOk ops n s listed := by
 intro s
 induction s with
 | done =>
  intro n listed m h
  cases n <;> (unfold okS schedOk; rw [ready_eq h])
 | take i l ih =>
  intro n listed m h
  cases n with
  | zero => rfl
  | succ n =>
   unfold okS schedOk
   rw [ready_eq h, freeS_eq h, fN_eq]
   cases hc : (Region.ready .any ops listed).contains i with
   | false => rfl
   | true => rw [ih n _ _ (h.set (in_ready (by simpa using hc)))]
 | one i l ih =>
  intro n listed m h
  cases n with
  | zero => rfl
  | succ n =>
   unfold okS schedOk
   rw [ready_eq h, fN_eq]
   cases hc : (Region.ready .any ops listed == [i]) with
   | false => rfl
   | true => rw [ih n _ _ (h.set (in_ready (by rw [beq_iff_eq.1 hc]; simp)))]
 | two i j l k ih1 ih2 =>
  intro n listed m h
  cases n with
  | zero => rfl
  | succ n =>
   unfold okS schedOk
   rw [ready_eq h, fN_eq, fN_eq]
   cases hc : (Region.ready .any ops listed == [i, j]) with
   | false => rfl
   | true => rw [ih1 n _ _ (h.set (in_ready (by rw [beq_iff_eq.1 hc]; simp))), ih2 n _ _ (h.set (in_ready (by rw [beq_iff_eq.1 hc]; simp)))]
end
end Go.Ev
namespace Go.Ev
open Go Go.RowKit
section
variable (P : Program) (K : Hk)
noncomputable def wantedG (ops : Array Oper) (A : Fr) (o : Oper) : Option Bool := Option.rec (motive := fun _ => Option Bool) (some true) (fun _ => wantedA ops A o) o.guard
theorem wantedG_eq (ops : Array Oper) (A : Fr) (o : Oper) : wantedG ops A o = wantedA ops A o := by
 obtain ⟨dst, op, ty, pos, after, guard⟩ := o
 cases guard <;> rfl
noncomputable def runOut (call : CallT) (A : Fr) (n : Nat) (t : Tr AO) (m : Nat) (o : Oper) (x : Out) : Option St :=
 Out.rec (motive := fun _ => Option St) (fun v us => gPut A n t m o.dst v us some) (fun f xs => gN f fun f => match call f xs ⟨t, m⟩ with
  | some (v, ⟨t', m'⟩) => gPut A n t' m' o.dst v [] some
  | none => none) (match K.ru A ⟨t, m⟩ o with
  | some (v, us) => gPut A n t m o.dst v us some
  | none => none) x
noncomputable def doOpG (call : CallT) (ops : Array Oper) (s : St) (o : Oper) : Option St := match s with
 | ⟨A, n, ⟨t, m⟩⟩ => match wantedG ops A o with
  | some true => runOut K call A n t m o (opF P A ⟨t, m⟩ o)
  | some false => gPut A n t m o.dst undefA [] some
  | none => none
theorem doOpG_eq (call : CallT) (ops : Array Oper) (s : St) (o : Oper) : doOpG P K call ops s o = doOp P K call ops s o := by
 obtain ⟨A, n, t, m⟩ := s
 unfold doOpG doOp
 simp only [wantedG_eq, opF_eq, gPut_eq]
 cases wantedA ops A o with
 | none => rfl
 | some b =>
  cases b with
  | false => rfl
  | true =>
   simp only
   unfold opS
   cases evPure P A o with
   | some v => exact gPut_eq _ _ _ _ _ _ _ _
   | none =>
    cases evRead P A ⟨t, m⟩ o with
    | some v => exact gPut_eq _ _ _ _ _ _ _ _
    | none =>
     cases evEff P A ⟨t, m⟩ o with
     | some p => obtain ⟨v, us⟩ := p; exact gPut_eq _ _ _ _ _ _ _ _
     | none =>
      cases evEnter A ⟨t, m⟩ o with
      | none =>
       show (match K.ru A ⟨t, m⟩ o with | some (v, us) => gPut A n t m o.dst v us some | none => none) = (match K.ru A ⟨t, m⟩ o with | some (v, us) => putF ⟨A, n, ⟨t, m⟩⟩ o.dst v us some | none => none)
       cases K.ru A ⟨t, m⟩ o with
       | none => rfl
       | some p => exact gPut_eq _ _ _ _ _ _ _ _
      | some p =>
       obtain ⟨f, xs⟩ := p
       show (gN f fun f => match call f xs ⟨t, m⟩ with | some (v, ⟨t', m'⟩) => gPut A n t' m' o.dst v [] some | none => none) = fN f fun f => match call f xs ⟨t, m⟩ with | some (v, h') => putF ⟨A, n, h'⟩ o.dst v [] some | none => none
       rw [gN_eq, fN_eq]
       cases call f xs ⟨t, m⟩ with
       | none => rfl
       | some q =>
        obtain ⟨v, t', m'⟩ := q
        exact gPut_eq _ _ _ _ _ _ _ _
noncomputable def doOpsG (call : CallT) (ops : Array Oper) (l : List Oper) : St → Option St := List.rec (motive := fun _ => St → Option St) (fun s => some s) (fun o _ ih s => match doOpG P K call ops s o with
  | some s' => ih s'
  | none => none) l
theorem doOpsG_eq (call : CallT) (ops : Array Oper) : ∀ (l : List Oper) (s : St), doOpsG P K call ops l s = doOps P K call ops l s
 | [], _ => rfl
 | o :: l, s => by
  show (match doOpG P K call ops s o with | some s' => doOpsG P K call ops l s' | none => none) = _
  unfold doOps
  rw [doOpG_eq]
  cases doOp P K call ops s o with
  | none => rfl
  | some s' => exact doOpsG_eq call ops l s'
/-! ### Drawn regions -/
noncomputable def gSm (s : Sm) {β : Type} (k : Sm → β) : β := Sm.rec (motive := fun _ => β) (fun b d t l tk => gN b fun b => gN d fun d => gN t fun t => gN l fun l => fB tk fun tk => k ⟨b, d, t, l, tk⟩) s
theorem gSm_eq {β : Type} (s : Sm) (k : Sm → β) : gSm s k = k s := by
 obtain ⟨b, d, t, l, tk⟩ := s
 simp only [gSm, gN_eq, fB_eq]
noncomputable def gSms {β : Type} (l : List Sm) (k : List Sm → β) : β := gL (fun s k => gSm s k) l k
theorem gSms_eq {β : Type} (l : List Sm) (k : List Sm → β) : gSms l k = k l := gL_eq (fun s k => gSm_eq s k) l k
/-- The order, worked out. -/
noncomputable def gSch {β : Type} (s : Sch) : (Sch → β) → β := Sch.rec (motive := fun _ => (Sch → β) → β) (fun k => k .done) (fun i _ ih k => gN i fun i => ih fun t => k (.take i t)) (fun i _ ih k => gN i fun i => ih fun t => k (.one i t)) (fun i j _ _ ih1 ih2 k => gN i fun i => gN j fun j => ih1 fun t => ih2 fun u => k (.two i j t u)) s
theorem gSch_eq {β : Type} : ∀ (s : Sch) (k : Sch → β), gSch s k = k s := by
 intro s
 induction s with
 | done => intro k; rfl
 | take i t ih => intro k; show gN i (fun i => gSch t fun t => k (.take i t)) = _; rw [gN_eq, ih]
 | one i t ih => intro k; show gN i (fun i => gSch t fun t => k (.one i t)) = _; rw [gN_eq, ih]
 | two i j t u ih1 ih2 => intro k; show gN i (fun i => gN j fun j => gSch t fun t => gSch u fun u => k (.two i j t u)) = _; rw [gN_eq, gN_eq, ih1, ih2]
/-- An order that serves, or none. -/
noncomputable def planG (ops : Array Oper) : Option Sch := gSms (smL P ops ops.toList 0) fun sm => gSch (schS sm ops.size 0) fun l => match okS sm ops.size l 0 && Region.noSelect ops with
 | true => some l
 | false => none
theorem planG_eq (ops : Array Oper) : planG P ops = (match schedOk ops ops.size (sched P ops ops.size (Array.replicate ops.size false)) (Array.replicate ops.size false) && Region.noSelect ops with
 | true => some (sched P ops ops.size (Array.replicate ops.size false))
 | false => none) := by
 unfold planG
 rw [gSms_eq, gSch_eq, schS_eq _ _ _ (ML.start ops.size), okS_eq _ _ _ _ (ML.start ops.size)]
noncomputable def oPure (A : Fr) (o : Oper) : Option AV := match o.op with
 | .move x => gA A x
 | .assign x => gA A x
 | .binOp op t x y _ => Option.rec (motive := fun _ => Option AV) none (fun a => Option.rec (motive := fun _ => Option AV) none (fun b => bin1 P op t x y a b) (gA A y)) (gA A x)
 | .load _ _ => none
 | _ => evPure P A o
theorem oPure_eq (A : Fr) (o : Oper) : oPure P A o = evPure P A o := by
 obtain ⟨dst, op, ty, pos, after, guard⟩ := o
 cases op <;> try rfl
 case move x => exact gA_eq A x
 case assign x => exact gA_eq A x
 case binOp op t x y yt =>
  show Option.rec (motive := fun _ => Option AV) none (fun a => Option.rec (motive := fun _ => Option AV) none (fun b => bin1 P op t x y a b) (gA A y)) (gA A x) = _
  rw [gA_eq, gA_eq]
  have e : evPure P A ⟨dst, .binOp op t x y yt, ty, pos, after, guard⟩ = (evA A x).bind fun a => (evA A y).bind fun b => slowBin P op t x y a b := rfl
  rw [e]
  cases evA A x with
  | none => rfl
  | some a =>
   cases evA A y with
   | none => rfl
   | some b => exact bin1_eq P op t x y a b
noncomputable def doOpDG (call : CallT) (ops : Array Oper) (n0 i : Nat) (s : St) (o : Oper) : Option St :=
 match o.op with
 | .alloc e => doOpD P K call ops n0 i s o
 | _ => doOpG P K call ops s o
theorem doOpDG_eq (call : CallT) (ops : Array Oper) (n0 i : Nat) (s : St) (o : Oper) : doOpDG P K call ops n0 i s o = doOpD P K call ops n0 i s o := by
 obtain ⟨dst, op, ty, pos, after, guard⟩ := o
 cases op <;> first | rfl | exact doOpG_eq P K call ops s _
noncomputable def runG (call : CallT) (ops : Array Oper) (n0 : Nat) (l : Sch) : St → Option (St × List FactA × List (Nat × Hp)) := Sch.rec (motive := fun _ => St → Option (St × List FactA × List (Nat × Hp)))
 (fun s => some (s, [], []))
 (fun i _ ih s => match ops[i]? with
  | some o => match s with
   | ⟨A, n, ⟨t, m⟩⟩ => match wantedG ops A o with
    | some true => match oPure P A o with
      | some v => gPut A n t m o.dst v [] ih
      | none => match evSpot P A o with
        | some (g, f) => match cellsAt ⟨t, m⟩ f with
           | some cs => match spotVal g cs with
             | some v => match gPut A n t m o.dst v [] ih with
               | some (s', fs, hs) => some (s', (i, f, cs) :: fs, hs)
               | none => none
             | none => none
           | none => none
        | none => match K.rp A o with
           | some v => gPut A n t m o.dst v [] ih
           | none => none
    | some false => gPut A n t m o.dst undefA [] ih
    | none => none
  | none => none)
 (fun i _ ih s => match ops[i]? with
  | some o => match doOpDG P K call ops n0 i s o with
    | some s1 => match ih s1 with
      | some (s', fs, hs) => some (s', fs, (i, s1.h) :: hs)
      | none => none
    | none => none
  | none => none)
 (fun i j _ _ ih1 ih2 s => match ops[i]?, ops[j]? with
  | some o, some q => match doOpDG P K call ops n0 i s o, doOpDG P K call ops n0 j s q with
    | some s1, some s2 => match ih1 s1, ih2 s2 with
      | some (s', fs, hs), some (s2', fs2, hs2) => if s' = s2' then some (s', fs ++ fs2, (i, s1.h) :: (j, s2.h) :: (hs ++ hs2)) else none
      | _, _ => none
    | _, _ => none
  | _, _ => none) l
theorem gPut_fn {β : Type} (A : Fr) (n : Nat) (t : Tr AO) (m : Nat) (d : Option Tmp) (v : AV) (us : List U) {k k' : St → Option β} (hk : ∀ s, k s = k' s) : gPut A n t m d v us k = putF ⟨A, n, ⟨t, m⟩⟩ d v us k' := by
 rw [gPut_eq, show k = k' from funext hk]
theorem runG_eq (call : CallT) (ops : Array Oper) (n0 : Nat) : ∀ (l : Sch) (s : St), runG P K call ops n0 l s = runSch P K call ops n0 l s := by
 intro l
 induction l with
 | done => intro s; rfl
 | take i l ih =>
  intro s
  obtain ⟨A, n, t, m⟩ := s
  show (match ops[i]? with
  | some o => match wantedG ops A o with
    | some true => match oPure P A o with
      | some v => gPut A n t m o.dst v [] (runG P K call ops n0 l)
      | none => match evSpot P A o with
        | some (g, f) => match cellsAt ⟨t, m⟩ f with
           | some cs => match spotVal g cs with
             | some v => match gPut A n t m o.dst v [] (runG P K call ops n0 l) with
               | some (s', fs, hs) => some (s', (i, f, cs) :: fs, hs)
               | none => none
             | none => none
           | none => none
        | none => match K.rp A o with
           | some v => gPut A n t m o.dst v [] (runG P K call ops n0 l)
           | none => none
    | some false => gPut A n t m o.dst undefA [] (runG P K call ops n0 l)
    | none => none
  | none => none) = _
  unfold runSch
  cases ops[i]? with
  | none => rfl
  | some o =>
   simp only [wantedG_eq, oPure_eq, gPut_fn A n t m _ _ _ ih]
   rfl
 | one i l ih =>
  intro s
  show (match ops[i]? with
  | some o => match doOpDG P K call ops n0 i s o with
    | some s1 => match runG P K call ops n0 l s1 with
      | some (s', fs, hs) => some (s', fs, (i, s1.h) :: hs)
      | none => none
    | none => none
  | none => none) = _
  unfold runSch
  simp only [doOpDG_eq, ih]
  rfl
 | two i j l k ih1 ih2 =>
  intro s
  show (match ops[i]?, ops[j]? with
  | some o, some q => match doOpDG P K call ops n0 i s o, doOpDG P K call ops n0 j s q with
    | some s1, some s2 => match runG P K call ops n0 l s1, runG P K call ops n0 k s2 with
      | some (s', fs, hs), some (s2', fs2, hs2) => if s' = s2' then some (s', fs ++ fs2, (i, s1.h) :: (j, s2.h) :: (hs ++ hs2)) else none
      | _, _ => none
    | _, _ => none
  | _, _ => none) = _
  unfold runSch
  simp only [doOpDG_eq, ih1, ih2]
  rfl
noncomputable def drawnG (call : CallT) (ops : Array Oper) (s : St) : Option St := match planG P ops with
 | some l => match s with
  | ⟨A, n, ⟨t, n0⟩⟩ => gN (n0 + allocNo ops ops.size) fun m => if m ≤ 2 ^ D then match runG P K call ops n0 l ⟨A, n, ⟨t, m⟩⟩ with
    | some (s', fs, hs) => match fs.all (factsOk ops n0 ⟨t, m⟩ hs) with
      | true => some s'
      | false => none
    | none => none
   else none
 | none => none
theorem drawnG_eq (call : CallT) (ops : Array Oper) (s : St) : drawnG P K call ops s = doDrawn P K call ops s := by
 obtain ⟨A, n, t, n0⟩ := s
 unfold drawnG doDrawn
 rw [planG_eq]
 simp only [fN_eq, gN_eq, runG_eq]
 cases schedOk ops ops.size (sched P ops ops.size (Array.replicate ops.size false)) (Array.replicate ops.size false) && Region.noSelect ops with
 | false => rfl
 | true => rfl
noncomputable def callG (ev : EvT) : CallT := fun f xs h =>
 match K.ex f xs h with
 | some r => some r
 | none => match P.funcs[f]? with
   | some fn => match fn.body with
     | some b => if Nat.max fn.ntmps xs.length ≤ 256 then gN (Nat.max fn.ntmps xs.length) fun n => gArgs xs 0 (.lf none) fun A => match ev f [] b ⟨A, n, h⟩ with
       | some (.normal, s') | some (.ret, s') => match s' with
          | ⟨A, _, h⟩ => (resultsA P fn A h).map fun v => (v, h)
       | _ => none
      else none
     | none => none
   | none => none
theorem callG_eq (ev ev' : EvT) (he : ∀ f p c s, ev f p c s = ev' f p c s) : callG P K ev = callA P K ev' := by
 funext f xs h
 unfold callG callA
 simp only [gN_eq, gArgs_eq, fArgs_eq, he]
 rfl
noncomputable def thenG (r : Option (X × St)) (k : St → Option (X × St)) : Option (X × St) :=
 Option.rec (motive := fun _ => Option (X × St)) none (fun p => Prod.rec (motive := fun _ => Option (X × St)) (fun x s => X.rec (motive := fun _ => Option (X × St)) (k s) (fun j => some (.exit j, s)) (some (.ret, s)) x) p) r
theorem thenG_eq (r : Option (X × St)) (k : St → Option (X × St)) : thenG r k = match r with | some (.normal, s') => k s' | r => r := by
 cases r with
 | none => rfl
 | some p =>
  obtain ⟨x, s⟩ := p
  cases x <;> rfl
noncomputable def blockG (id : Nat) (r : Option (X × St)) : Option (X × St) :=
 Option.rec (motive := fun _ => Option (X × St)) none (fun p => Prod.rec (motive := fun _ => Option (X × St)) (fun x s => X.rec (motive := fun _ => Option (X × St)) (some (.normal, s)) (fun j => Bool.rec (motive := fun _ => Option (X × St)) (some (.exit j, s)) (some (.normal, s)) (Nat.beq j id)) (some (.ret, s)) x) p) r
theorem blockG_eq (id : Nat) (r : Option (X × St)) : blockG id r = match r with
    | some (.exit j, s') => if j = id then some (.normal, s') else some (.exit j, s')
    | r => r := by
 cases r with
 | none => rfl
 | some p =>
  obtain ⟨x, s⟩ := p
  cases x with
  | normal => rfl
  | ret => rfl
  | exit j =>
   show (Bool.rec (motive := fun _ => Option (X × St)) (some (.exit j, s)) (some (.normal, s)) (Nat.beq j id)) = if j = id then some (.normal, s) else some (.exit j, s)
   by_cases h : j = id
   · subst h
     simp
   · have : Nat.beq j id = false := by
      cases hb : Nat.beq j id with
      | false => rfl
      | true => exact absurd (Nat.eq_of_beq_eq_true hb) h
     rw [this, if_neg h]
noncomputable def regionG (call : CallT) (ops : Array Oper) (d : Bool) (s : St) : Option (X × St) :=
 Option.rec (motive := fun _ => Option (X × St)) none (fun s' => some (.normal, s')) (Bool.rec (motive := fun _ => Option St) (doOpsG P K call ops ops.toList s) (drawnG P K call ops s) d)
noncomputable def condG (A : Fr) (x : Operand) (a b : Option (X × St)) : Option (X × St) := match gA A x with
 | some (.v (.one (.b true))) => a
 | some (.v (.one (.b false))) => b
 | _ => none
noncomputable def evG : Nat → EvT := fun n => Nat.rec (motive := fun _ => EvT) (fun _ _ _ _ => none) (fun n ih f p c s => match c with
  | .skip => some (.normal, s)
  | .label _ => some (.normal, s)
  | .region _ ops d => regionG P K (callG P K ih) ops d s
  | .seq a b => thenG (ih f (false :: p) a s) (ih f (true :: p) b)
  | .cond x a b => condG s.A x (ih f (false :: p) a s) (ih f (true :: p) b s)
  | .block id b => match K.lo f p s with
    | some r => some r
    | none => blockG id (ih f (false :: p) b s)
  | .loop b => thenG (ih f (false :: p) b s) (ih f p (.loop b))
  | .exit id => some (.exit id, s)
  | .ret => some (.ret, s)
  | _ => none) n
theorem evG_eq : ∀ (n f : Nat) (p : List Bool) (c : Code) (s : St), evG P K n f p c s = evCode P K n f p c s
 | 0, _, _, _, _ => rfl
 | n + 1, f, p, c, s => by
  have ih := evG_eq n
  have hc : callG P K (evG P K n) = callA P K (evCode P K n) := callG_eq P K _ _ ih
  unfold evCode
  cases c <;> try rfl
  case region id ops d =>
   show regionG P K (callG P K (evG P K n)) ops d s = _
   rw [hc]
   cases d with
   | false =>
    show Option.rec (motive := fun _ => Option (X × St)) none (fun s' => some (.normal, s')) (doOpsG P K _ ops ops.toList s) = _
    rw [doOpsG_eq]
    simp only
    cases doOps P K (callA P K (evCode P K n)) ops ops.toList s <;> rfl
   | true =>
    show Option.rec (motive := fun _ => Option (X × St)) none (fun s' => some (.normal, s')) (drawnG P K _ ops s) = _
    rw [drawnG_eq]
    simp only
    cases doDrawn P K (callA P K (evCode P K n)) ops s <;> rfl
  case seq a b =>
   show thenG (evG P K n f (false :: p) a s) (evG P K n f (true :: p) b) = _
   rw [thenG_eq, ih]
   simp only [ih]
   rfl
  case cond x a b =>
   show condG s.A x (evG P K n f (false :: p) a s) (evG P K n f (true :: p) b s) = _
   unfold condG
   rw [gA_eq, ih, ih]
   rfl
  case block id b =>
   show (match K.lo f p s with | some r => some r | none => blockG id (evG P K n f (false :: p) b s)) = _
   rw [blockG_eq, ih]
   rfl
  case loop b =>
   show thenG (evG P K n f (false :: p) b s) (evG P K n f p (.loop b)) = _
   rw [thenG_eq, ih]
   simp only [ih]
   rfl
end
end Go.Ev
namespace Go.Ev
open Go Go.RowKit
/-- A row: of an operation, of which operands, what it gives. -/
inductive Rl where
 | bin (op : BinOp) (x y r : A1)
 | len (t : Nat) (x r : A1)
 | cnv (s d : Nat) (x r : A1)
 | slc (t : Nat) (x : A1) (lo hi : Option A1) (r : A1)
 | ixa (t : Nat) (x i r : A1)
 | lod (t : Nat) (x : A1) (k o : Nat) (r : A1)
 | str (s d : Nat) (x : A1) (k o : Nat) (r : A1)
 | app (t : Nat) (s : A1) (k o n m z : Nat) (cs : List A1) (r : A1) (o' : Nat)
def oneOf : Option AV → Option A1
 | some (.v (.one x)) => some x
 | _ => none
def optOf (x : Option (Option AV)) : Option (Option A1) := match x with
 | none => some none
 | some y => (oneOf y).map some
def findR {α : Type} (f : Rl → Option α) : List Rl → Option α
 | [] => none
 | e :: l => match f e with
   | some r => some r
   | none => findR f l
section
variable (P : Program) (tab : List Rl)
def pureT (A : Fr) (o : Oper) : Option AV := match o.op with
 | .binOp op t x y _ => match oneOf (evA A x), oneOf (evA A y) with
   | some a, some b => findR (fun e => match e with
     | .bin op' x' y' r => if op = op' ∧ a = x' ∧ b = y' then some (.v (.one r)) else none
     | _ => none) tab
   | _, _ => none
 | .call c => match c.callee, allSome (evA A) c.args.toList, c.argTypes.toList with
   | .builtin .len, some [.v (.one a)], t :: _ => findR (fun e => match e with
     | .len t' x' r => if t = t' ∧ a = x' then some (.v (.one r)) else none
     | _ => none) tab
   | _, _, _ => none
 | .slice t x lo hi none => match oneOf (evA A x), optOf (lo.map (evA A)), optOf (hi.map (evA A)) with
   | some a, some l, some m => findR (fun e => match e with
     | .slc t' x' lo' hi' r => if t = t' ∧ a = x' ∧ l = lo' ∧ m = hi' then some (.v (.one r)) else none
     | _ => none) tab
   | _, _, _ => none
 | .indexAddr t x i => match oneOf (evA A x), oneOf (evA A i) with
   | some a, some b => findR (fun e => match e with
     | .ixa t' x' i' r => if t = t' ∧ a = x' ∧ b = i' then some (.v (.one r)) else none
     | _ => none) tab
   | _, _ => none
 | .convert s d x => match oneOf (evA A x) with
   | some a => findR (fun e => match e with
     | .cnv s' d' x' r => if s = s' ∧ d = d' ∧ a = x' then some (.v (.one r)) else none
     | _ => none) tab
   | none => none
 | _ => none
def readT (A : Fr) (h : Hp) (o : Oper) : Option AV := match o.op with
 | .load t x => match oneOf (evA A x) with
   | some a => findR (fun e => match e with
     | .lod t' x' k i r => if t = t' ∧ a = x' ∧ h.get k = some (.y i) then some (.v (.one r)) else none
     | _ => none) tab
   | none => none
 | _ => none
def effT (A : Fr) (h : Hp) (o : Oper) : Option (AV × List U) := match o.op with
 | .convert s d x => match oneOf (evA A x) with
   | some a => findR (fun e => match e with
     | .str s' d' x' k i r => if s = s' ∧ d = d' ∧ a = x' ∧ h.get k = some (.y i) then some (.v (.one r), []) else none
     | _ => none) tab
   | none => none
 | .call c => match c.callee, allSome (evA A) c.args.toList, c.argTypes.toList with
   | .builtin .append, some [.v (.one a), x], [t, u] => findR (fun e => match e with
     | .app t' s' k i n m z cs r i' => if t = t' ∧ u = t' ∧ a = s' ∧ h.get k = some (.y i) ∧ h.n = n ∧ Nat.blt k n = true ∧ cellsIn h z x = some cs ∧ lenIn x = some m ∧ Nat.blt 0 m = true then some (.v (.one r), [.del k, .new (.y i')]) else none
     | _ => none) tab
   | _, _, _ => none
 | _ => none
/-- All rules. -/
def ruT (A : Fr) (h : Hp) (o : Oper) : Option (AV × List U) := match pureT tab A o with
 | some v => some (v, [])
 | none => match readT tab A h o with
  | some v => some (v, [])
  | none => effT tab A h o
def ruAll (A : Fr) (h : Hp) (o : Oper) : Option (AV × List U) := match ruX P A h o with
 | some r => some r
 | none => match ruM P A h o with
  | some r => some r
  | none => ruT tab A h o
end
variable [Sy]
def ov (x : A1) : AV := .v (.one x)
/-- A row is right. -/
def RlOk (P : Program) : Rl → Prop
 | .bin op x y r => (∀ t, evBin P op t (ov x.den) (ov y.den) = some (ov r.den)) ∧ x.den ≠ .nili
 | .len t x r => evLenP P t (ov x.den) = some (ov r.den)
 | .cnv s d x r => evConvP P s d (ov x.den) = some (ov r.den)
 | .slc t x lo hi r => evSlice P t (ov x.den) (lo.map fun q => ov q.den) (hi.map fun q => ov q.den) none = some (ov r.den)
 | .ixa t x i r => evIndexAddr P t (ov x.den) (ov i.den) = some (ov r.den)
 | .lod t x k i r => ∀ h : Hp, h.get k = some (Sy.o i) → evLoad P t (ov x.den) h = some (ov r.den)
 | .str s d x k i r => evConvP P s d (ov x.den) = none ∧ ∀ h : Hp, h.get k = some (Sy.o i) → evConvM P h s d (ov x.den) = some (ov r.den, [])
 | .app t s k i n m z cs r i' => ∀ (h : Hp) (q o : Nat) (c : CapE), h.get k = some (Sy.o i) → h.n = n → cellsIn h z (ov (.sl q o m c)) = some cs → evAppend P h t t (ov s.den) (ov (.sl q o m c)) = some (ov r.den, [.del k, .new (Sy.o i')]) ∨ evAppend P h t t (ov s.den) (ov (.sl q o m c)) = some (ov r.den, [.new (Sy.o i')])
theorem findR_ok {α : Type} {f : Rl → Option α} {r : α} : ∀ {l : List Rl}, findR f l = some r → ∃ e ∈ l, f e = some r
 | [], h => by cases h
 | e :: l, h => by
  unfold findR at h
  cases hf : f e with
  | some q =>
   simp only [hf] at h
   cases h
   exact ⟨e, List.mem_cons_self, hf⟩
  | none =>
   simp only [hf] at h
   obtain ⟨e', h1, h2⟩ := findR_ok h
   exact ⟨e', List.mem_cons_of_mem _ h1, h2⟩
theorem asA1_den (v : Value) (x : A1) (h : asA1 v = some x) : x.den = x := by
 unfold asA1 at h
 split at h <;> first
 | (cases h; done)
 | (cases h; rfl)
 | (split at h <;> first | (cases h; done) | (cases h; rfl))
theorem asA1s_den : ∀ (l : List Value) (m : List A1), allSome asA1 l = some m → m.map A1.den = m
 | [], m, h => by cases h; rfl
 | v :: l, m, h => by
  unfold allSome at h
  cases h1 : asA1 v with
  | none => simp [h1] at h
  | some x =>
   cases h2 : allSome asA1 l with
   | none => simp [h1, h2] at h
   | some q =>
    simp only [h1, h2, Option.some.injEq] at h
    subst h
    rw [List.map_cons, asA1_den v x h1, asA1s_den l q h2]
theorem asAV_den (v : Value) (x : AV) (h : asAV v = some x) : denV x = x := by
 have h2 : ∀ y : A2, asA2 v = some y → den2 y = y := by
  intro y hy
  unfold asA2 at hy
  split at hy
  · rename_i cs
    cases h1 : allSome asA1 cs.toList with
    | none => simp [h1] at hy
    | some l =>
     simp only [h1, Option.map_some, Option.some.injEq] at hy
     subst hy
     show A2.agg (l.map A1.den) = A2.agg l
     rw [asA1s_den _ l h1]
  · cases h1 : asA1 v with
    | none => simp [h1] at hy
    | some z =>
     simp only [h1, Option.map_some, Option.some.injEq] at hy
     subst hy
     show A2.one z.den = A2.one z
     rw [asA1_den v z h1]
 unfold asAV at h
 split at h
 · split at h
   · cases h
     rfl
   · cases h
 · cases h1 : asA2 v with
   | none => simp [h1] at h
   | some y =>
    simp only [h1, Option.map_some, Option.some.injEq] at h
    subst h
    show AV.v (den2 y) = AV.v y
    rw [h2 y h1]
theorem evA_den (A : Fr) (x : Operand) : evA (denF A) x = (evA A x).map denV := by
 cases x with
 | tmp t =>
  show (bif Nat.blt t 256 then Tr.get DT (Tr.map denV A) t else none) = (bif Nat.blt t 256 then Tr.get DT A t else none).map denV
  rw [Tr.get_map]
  cases Nat.blt t 256 <;> rfl
 | const v =>
  show asAV v = (asAV v).map denV
  cases h : asAV v with
  | none => rfl
  | some x => rw [Option.map_some, asAV_den v x h]
 | global g => rfl
 | func f => rfl
theorem evAs_den (A : Fr) : ∀ (l : List Operand), allSome (evA (denF A)) l = (allSome (evA A) l).map (List.map denV)
 | [] => rfl
 | x :: l => by
  unfold allSome
  rw [evA_den, evAs_den A l]
  cases evA A x with
  | none => rfl
  | some a => cases allSome (evA A) l <;> rfl
theorem oneOf_ok {x : Option AV} {a : A1} (h : oneOf x = some a) : x = some (ov a) := by
 unfold oneOf at h
 split at h
 · cases h
   rfl
 · cases h
section
variable {E : List Ent} {A : Fr} {n : Nat} {a : Act} {P : Program} {w0 : Base} {w : World} {h : Hp} {tab : List Rl}
theorem optOf_ok {x : Option Operand} {l : Option A1} (h : optOf (x.map (evA A)) = some l) : x.map (evA A) ≠ some none ∧ x.map (evA (denF A)) ≠ some none ∧ (x.map (evA (denF A))).join = l.map fun q => ov q.den := by
 cases x with
 | none =>
  cases h
  exact ⟨by simp, by simp, rfl⟩
 | some x =>
  have h : (oneOf (evA A x)).map some = some l := h
  cases ho : oneOf (evA A x) with
  | none => simp [ho] at h
  | some q =>
   simp only [ho, Option.map_some, Option.some.injEq] at h
   subst h
   have e := oneOf_ok ho
   refine ⟨by simp [e], by simp [evA_den, e], ?_⟩
   simp only [Option.map_some, evA_den, e]
   rfl
theorem pureT_ok (ht : ∀ e ∈ tab, RlOk P e) {o : Oper} {v : AV} (hp : pureT tab A o = some v) : evPure P (denF A) o = some (denV v) := by
 obtain ⟨dst, op, ty, pos, after, guard⟩ := o
 unfold pureT at hp
 simp only at hp
 split at hp
 · rename_i op' t x y yt
   split at hp
   · rename_i p q h1 h2
     obtain ⟨e, he, hf⟩ := findR_ok hp
     split at hf
     · rename_i op2 x' y' r
       split at hf
       · rename_i hc
         obtain ⟨rfl, rfl, rfl⟩ := hc
         cases hf
         obtain ⟨h3, h4⟩ := ht _ he
         have e1 : evA (denF A) x = some (ov p.den) := by rw [evA_den, oneOf_ok h1]; rfl
         have e2 : evA (denF A) y = some (ov q.den) := by rw [evA_den, oneOf_ok h2]; rfl
         have h5 := h3 t
         show ((evA (denF A) x).bind fun a => (evA (denF A) y).bind fun b => slowBin P op' t x y a b) = _
         rw [e1, e2]
         show slowBin P op' t x y (ov p.den) (ov q.den) = some (ov r.den)
         rw [← h5]
         unfold slowBin ov
         split
         · rename_i e3 e4
           injection e3 with e3
           injection e3 with e3
           exact absurd e3 h4
         · rfl
       · cases hf
     · cases hf
   · cases hp
 · rename_i c
   split at hp
   · rename_i p t tl hc hx hts
     obtain ⟨e, he, hf⟩ := findR_ok hp
     split at hf
     · rename_i t' x' r
       split at hf
       · rename_i hcc
         obtain ⟨rfl, rfl⟩ := hcc
         cases hf
         have h3 : evLenP P t (ov p.den) = some (ov r.den) := ht _ he
         have e1 : allSome (evA (denF A)) c.args.toList = some [ov p.den] := by rw [evAs_den, hx]; rfl
         simp only [evPure, hc, e1, hts]
         exact h3
       · cases hf
     · cases hf
   · cases hp
 · rename_i t x lo hi
   split at hp
   · rename_i p l m h1 h2 h3
     obtain ⟨e, he, hf⟩ := findR_ok hp
     split at hf
     · rename_i t' x' lo' hi' r
       split at hf
       · rename_i hcc
         obtain ⟨rfl, rfl, rfl, rfl⟩ := hcc
         cases hf
         have h4 : evSlice P t (ov p.den) (l.map fun q => ov q.den) (m.map fun q => ov q.den) none = some (ov r.den) := ht _ he
         have e1 : evA (denF A) x = some (ov p.den) := by rw [evA_den, oneOf_ok h1]; rfl
         obtain ⟨_, g1, g2⟩ := optOf_ok h2
         obtain ⟨_, g3, g4⟩ := optOf_ok h3
         have e2 : evPure P (denF A) ⟨dst, .slice t x lo hi none, ty, pos, after, guard⟩ = (match evA (denF A) x, lo.map (evA (denF A)), hi.map (evA (denF A)), (none : Option Operand).map (evA (denF A)) with
          | some v, some none, _, _ | some v, _, some none, _ | some v, _, _, some none => none
          | some v, a, b, c => evSlice P t v a.join b.join c.join
          | none, _, _, _ => none) := rfl
         rw [e2, e1]
         generalize lo.map (evA (denF A)) = L at g1 g2
         generalize hi.map (evA (denF A)) = M at g3 g4
         rw [← g2, ← g4] at h4
         rcases L with _ | (_ | L)
         · rcases M with _ | (_ | M)
           · exact h4
           · exact absurd rfl g3
           · exact h4
         · exact absurd rfl g1
         · rcases M with _ | (_ | M)
           · exact h4
           · exact absurd rfl g3
           · exact h4
       · cases hf
     · cases hf
   · cases hp
 · rename_i t x i
   split at hp
   · rename_i p q h1 h2
     obtain ⟨e, he, hf⟩ := findR_ok hp
     split at hf
     · rename_i t' x' i' r
       split at hf
       · rename_i hcc
         obtain ⟨rfl, rfl, rfl⟩ := hcc
         cases hf
         have h3 : evIndexAddr P t (ov p.den) (ov q.den) = some (ov r.den) := ht _ he
         have e1 : evA (denF A) x = some (ov p.den) := by rw [evA_den, oneOf_ok h1]; rfl
         have e2 : evA (denF A) i = some (ov q.den) := by rw [evA_den, oneOf_ok h2]; rfl
         simp only [evPure, e1, e2, Option.bind_some]
         exact h3
       · cases hf
     · cases hf
   · cases hp
 · rename_i s d x
   split at hp
   · rename_i p h1
     obtain ⟨e, he, hf⟩ := findR_ok hp
     split at hf
     · rename_i s' d' x' r
       split at hf
       · rename_i hcc
         obtain ⟨rfl, rfl, rfl⟩ := hcc
         cases hf
         have h3 : evConvP P s d (ov p.den) = some (ov r.den) := ht _ he
         have e1 : evA (denF A) x = some (ov p.den) := by rw [evA_den, oneOf_ok h1]; rfl
         simp only [evPure, e1, Option.bind_some]
         exact h3
       · cases hf
     · cases hf
   · cases hp
 · cases hp
theorem get_den_y {k i : Nat} (hg : h.get k = some (.y i)) : (denH h).get k = some (Sy.o i) := by
 rw [get_denH, hg]
 rfl
theorem readT_ok (ht : ∀ e ∈ tab, RlOk P e) {o : Oper} {v : AV} (hp : readT tab A h o = some v) : evRead P (denF A) (denH h) o = some (denV v) := by
 obtain ⟨dst, op, ty, pos, after, guard⟩ := o
 unfold readT at hp
 simp only at hp
 split at hp
 · rename_i t x
   split at hp
   · rename_i p h1
     obtain ⟨e, he, hf⟩ := findR_ok hp
     split at hf
     · rename_i t' x' k i r
       split at hf
       · rename_i hcc
         obtain ⟨rfl, rfl, hg⟩ := hcc
         cases hf
         have h3 : ∀ h : Hp, h.get k = some (Sy.o i) → evLoad P t (ov p.den) h = some (ov r.den) := ht _ he
         have e1 : evA (denF A) x = some (ov p.den) := by rw [evA_den, oneOf_ok h1]; rfl
         simp only [evRead, e1, Option.bind_some]
         exact h3 _ (get_den_y hg)
       · cases hf
     · cases hf
   · cases hp
 · cases hp
theorem cellsIn_den {z q o c : Nat} {cp : CapE} {cs : List A1} (hc : cellsIn h z (ov (.sl q o c cp)) = some cs) : cellsIn (denH h) z (ov (.sl q o c cp)) = some cs := by
 unfold cellsIn ov at *
 simp only at *
 rw [get_denH]
 cases hg : h.get q with
 | none => simp [hg] at hc
 | some ob =>
  simp only [hg, Option.map_some, Option.bind_some] at *
  cases ob with
  | y i => simp [rowOf] at hc
  | _ => exact hc
theorem effT_ok (ht : ∀ e ∈ tab, RlOk P e) {o : Oper} {v : AV} {us : List U} (hp : effT tab A h o = some (v, us)) : evEff P (denF A) (denH h) o = some (denV v, us.map denU) ∨ ∃ k q, Nat.blt k h.n = true ∧ us = [.del k, .new q] ∧ evEff P (denF A) (denH h) o = some (denV v, [.new q.den]) := by
 obtain ⟨dst, op, ty, pos, after, guard⟩ := o
 unfold effT at hp
 simp only at hp
 split at hp
 · rename_i s d x
   split at hp
   · rename_i p h1
     obtain ⟨e, he, hf⟩ := findR_ok hp
     split at hf
     · rename_i s' d' x' k i r
       split at hf
       · rename_i hcc
         obtain ⟨rfl, rfl, rfl, hg⟩ := hcc
         cases hf
         obtain ⟨h2, h3⟩ : evConvP P s d (ov p.den) = none ∧ ∀ h : Hp, h.get k = some (Sy.o i) → evConvM P h s d (ov p.den) = some (ov r.den, []) := ht _ he
         have e1 : evA (denF A) x = some (ov p.den) := by rw [evA_den, oneOf_ok h1]; rfl
         left
         simp only [evEff, e1, Option.bind_some]
         exact h3 _ (get_den_y hg)
       · cases hf
     · cases hf
   · cases hp
 · rename_i c
   split at hp
   · rename_i p x t u hc hx hts
     obtain ⟨e, he, hf⟩ := findR_ok hp
     split at hf
     · rename_i t' s' k i n' m z cs r i'
       split at hf
       · rename_i hcc
         obtain ⟨rfl, rfl, rfl, hg, hn, hlt, hcs, hl, hm⟩ := hcc
         cases hf
         have h3 : ∀ (h : Hp) (q o : Nat) (c : CapE), h.get k = some (Sy.o i) → h.n = n' → cellsIn h z (ov (.sl q o m c)) = some cs → evAppend P h u u (ov p.den) (ov (.sl q o m c)) = some (ov r.den, [.del k, .new (Sy.o i')]) ∨ evAppend P h u u (ov p.den) (ov (.sl q o m c)) = some (ov r.den, [.new (Sy.o i')]) := ht _ he
         have hm0 : m ≠ 0 := by have := Nat.le_of_ble_eq_true hm; omega
         have hx2 : ∃ q o c, x = ov (.sl q o m c) := by
          unfold cellsIn at hcs
          split at hcs
          · rename_i q o' n' c'
            have : n' = m := by simpa [lenIn] using hl
            subst this
            exact ⟨q, o', c', rfl⟩
          · cases hcs
         obtain ⟨q, o', c', rfl⟩ := hx2
         have e1 : allSome (evA (denF A)) c.args.toList = some [ov p.den, ov (.sl q o' m c')] := by rw [evAs_den, hx]; rfl
         rcases h3 (denH h) q o' c' (get_den_y hg) hn (cellsIn_den hcs) with h4 | h4
         · left
           simp only [evEff, hc, e1, hts]
           exact h4
         · refine .inr ⟨k, .y i', by rw [hn]; exact hlt, rfl, ?_⟩
           simp only [evEff, hc, e1, hts]
           exact h4
       · cases hf
     · cases hf
   · cases hp
 · cases hp
theorem Rep.congr {h' : Hp} (hr : Rep w0 E h w) (hn : h'.n = h.n) (hg : ∀ k, k < 2 ^ D → h'.get k = h.get k) : Rep w0 E h' w where
 below := hr.below
 len := by rw [hn]; exact hr.len
 bound := by rw [hn]; exact hr.bound
 obj := fun k o hk ho => by
  rw [hn] at hk
  rw [hg k (Nat.lt_of_lt_of_le hk hr.bound)] at ho
  exact hr.obj k o hk ho
 free := fun k hk hkd => by
  rw [hn] at hk
  rw [hg k hkd]
  exact hr.free k hk hkd
 sep := fun k k' o o' b c c' hk hk' ho ho' h1 h2 => by
  rw [hn] at hk hk'
  rw [hg k (Nat.lt_of_lt_of_le hk hr.bound)] at ho
  rw [hg k' (Nat.lt_of_lt_of_le hk' hr.bound)] at ho'
  exact hr.sep k k' o o' b c c' hk hk' ho ho' h1 h2
 old := fun k o b c hk ho he => by
  rw [hn] at hk
  rw [hg k (Nat.lt_of_lt_of_le hk hr.bound)] at ho
  exact hr.old k o b c hk ho he
theorem Rep.delNew {k : Nat} {q : AO} (hk : k < h.n) (hr : Rep w0 E (h.new q) w) : Rep w0 E ((h.del k).new q) w := by
 have hb : h.n + 1 ≤ 2 ^ D := hr.bound
 have h1 : Rep w0 E ((h.new q).del k) w := hr.del (by show k < h.n + 1; omega)
 refine h1.congr rfl (fun j hj => ?_)
 show Tr.get D (Tr.set D (Tr.set D h.t k none) h.n (some q)) j = Tr.get D (Tr.set D (Tr.set D h.t h.n (some q)) k none) j
 by_cases e1 : j = h.n
 · subst e1
   rw [Tr.get_same, Tr.get_other D _ k h.n _ (by omega) (by omega) (by omega), Tr.get_same]
 · rw [Tr.get_other D _ h.n j _ (by omega) hj e1]
   by_cases e2 : j = k
   · subst e2
     rw [Tr.get_same, Tr.get_same]
   · rw [Tr.get_other D _ k j _ (by omega) hj e2, Tr.get_other D _ k j _ (by omega) hj e2, Tr.get_other D _ h.n j _ (by omega) hj e1]
theorem turns_delNew {k : Nat} {q : AO} {o : Oper} {v : AV} (hk : k < h.n) (ht : Turns P w0 E a w o v (apU h [.new q])) : Turns P w0 E a w o v (apU h [.del k, .new q]) := by
 obtain ⟨E', w', u, h1, h2, h3, h4⟩ := ht
 exact ⟨E', w', u, h1, Rep.delNew hk h2, h3, h4⟩
theorem ruT_ok (ht : ∀ e ∈ tab, RlOk P e) : RuOk P w0 (ruT tab) := by
 intro A n h o v us hx E a w ha hr
 unfold ruT at hx
 split at hx
 · rename_i v' h1
   cases hx
   exact turns_pure ha hr (pureT_ok ht h1)
 · split at hx
   · rename_i v' h1
     cases hx
     exact turns_read ha hr (readT_ok ht h1)
   · rcases effT_ok ht hx with h1 | ⟨k, q, hk, rfl, h1⟩
     · exact turns_eff ha hr h1
     · exact turns_delNew (Nat.le_of_ble_eq_true hk) (turns_eff (us := [.new q]) ha hr h1)
theorem ruAll_ok (ht : ∀ e ∈ tab, RlOk P e) : RuOk P w0 (ruAll P tab) := by
 intro A n h o v us hx E a w ha hr
 unfold ruAll at hx
 split at hx
 · rename_i r h1
   cases hx
   exact ruX_ok A n h o v us h1 E a w ha hr
 · split at hx
   · rename_i r h1
     cases hx
     exact ruM_ok A n h o v us h1 E a w ha hr
   · exact ruT_ok ht A n h o v us hx E a w ha hr
theorem rpT_ok (ht : ∀ e ∈ tab, RlOk P e) : RpOk P (pureT tab) := fun A n o v hx E a ha => gives_den ha (pureT_ok ht hx)
end
end Go.Ev
