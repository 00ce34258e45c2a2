/- A faster reckoner, the same by proof: orders by masks. -/
import Derived.Test.YtbbefahmamnlcaaGreatDoorEvF2
set_option linter.unusedVariables false
set_option linter.unusedSimpArgs false
set_option linter.unusedSectionVars false
namespace Go.Ev
open Go Go.RowKit
/-! ### Masks -/
def bit1 (d : Nat) : Nat := Nat.shiftLeft 1 d
def maskL (l : List Nat) : Nat := l.foldr (fun a m => Nat.lor (bit1 a) m) 0
def bitD (o : Option Nat) : Nat := match o with
 | some d => bit1 d
 | none => 0
theorem testBit_bit1 (d i : Nat) : Nat.testBit (bit1 d) i = decide (d = i) := by
 show Nat.testBit (1 <<< d) i = _
 rw [Nat.one_shiftLeft, Nat.testBit_two_pow]
theorem testBit_maskL (i : Nat) : ∀ (l : List Nat), Nat.testBit (maskL l) i = l.contains i
 | [] => by simp [maskL]
 | a :: l => by
  have ih := testBit_maskL i l
  show Nat.testBit (bit1 a ||| maskL l) i = _
  rw [Nat.testBit_or, ih, testBit_bit1, List.contains_cons]
  by_cases h : a = i
  · subst h
    simp
  · have : (i == a) = false := by simpa using fun e => h e.symm
    rw [this]
    simp [h]
def no1 (m b : Nat) : Bool := Nat.beq (Nat.land m b) 0
theorem no1_bit (m d : Nat) : no1 m (bit1 d) = !Nat.testBit m d := by
 unfold no1
 cases h : Nat.testBit m d with
 | false =>
  have : Nat.land m (bit1 d) = 0 := by
   apply Nat.eq_of_testBit_eq
   intro i
   show Nat.testBit (m &&& bit1 d) i = _
   rw [Nat.testBit_and, testBit_bit1, Nat.zero_testBit]
   by_cases hi : d = i
   · subst hi
     simp [h]
   · simp [hi]
  rw [this]
  rfl
 | true =>
  cases hb : Nat.beq (Nat.land m (bit1 d)) 0 with
  | false => rfl
  | true =>
   have h1 := Nat.eq_of_beq_eq_true hb
   have h2 : Nat.testBit (m &&& bit1 d) d = false := by
    show Nat.testBit (Nat.land m (bit1 d)) d = false
    rw [h1, Nat.zero_testBit]
   rw [Nat.testBit_and, testBit_bit1, h] at h2
   simp at h2
def subM (d m : Nat) : Bool := Nat.beq (Nat.land m d) d
theorem subM_iff (d m : Nat) : subM d m = true ↔ ∀ i, Nat.testBit d i = true → Nat.testBit m i = true := by
 unfold subM
 rw [Nat.beq_eq]
 constructor
 · intro h i hi
   have : Nat.testBit (m &&& d) i = Nat.testBit d i := congrArg (fun x => Nat.testBit x i) h
   rw [Nat.testBit_and, hi] at this
   simpa using this
 · intro h
   show m &&& d = d
   apply Nat.eq_of_testBit_eq
   intro i
   rw [Nat.testBit_and]
   cases hd : Nat.testBit d i with
   | false => simp
   | true => rw [h i hd]; rfl
/-! ### What is to be known of an operation -/
structure Sm where
 bit : Nat
 dep : Nat
 dst : Nat
 look : Nat
 tk : Bool
section
variable (P : Program)
def depOf (o : Oper) : Nat := maskL ((o.after.toList.filter (Region.binds .any)).map (·.on))
def smOf (ops : Array Oper) (i : Nat) (o : Oper) : Sm := ⟨bit1 i, depOf o, bitD o.dst, maskL (o.looksAt ops), takeable P o⟩
def smL (ops : Array Oper) : List Oper → Nat → List Sm
 | [], _ => []
 | o :: l, i => smOf P ops i o :: smL ops l (Nat.succ i)
end
def readyL : List Sm → Nat → Nat → List Nat
 | [], _, _ => []
 | s :: l, i, m => bif no1 m s.bit then (bif subM s.dep m then i :: readyL l (Nat.succ i) m else readyL l (Nat.succ i) m) else readyL l (Nat.succ i) m
/-- The masks stand for the list of what is done. -/
def ML (n : Nat) (listed : Array Bool) (m : Nat) : Prop := listed.size = n ∧ (∀ j, j < n → listed.getD j true = Nat.testBit m j) ∧ ∀ j, n ≤ j → Nat.testBit m j = false
theorem ML.get {n : Nat} {listed : Array Bool} {m : Nat} (h : ML n listed m) (j : Nat) : listed.getD j false = Nat.testBit m j := by
 by_cases hj : j < n
 · rw [← h.2.1 j hj]
   have : j < listed.size := by rw [h.1]; exact hj
   simp [Array.getD, this]
 · rw [h.2.2 j (by omega)]
   have : ¬ j < listed.size := by rw [h.1]; exact hj
   simp [Array.getD, this]
theorem ML.start (n : Nat) : ML n (Array.replicate n false) 0 := ⟨by simp, fun j hj => by simp [Array.getD, hj], fun j _ => Nat.zero_testBit j⟩
theorem ML.set {n : Nat} {listed : Array Bool} {m i : Nat} (h : ML n listed m) (hi : i < n) : ML n (listed.setIfInBounds i true) (Nat.lor m (bit1 i)) := by
 refine ⟨by simp [h.1], fun j hj => ?_, fun j hj => ?_⟩
 · show _ = Nat.testBit (m ||| bit1 i) j
   rw [Nat.testBit_or, testBit_bit1, ← h.2.1 j hj]
   have hjs : j < listed.size := by rw [h.1]; exact hj
   rw [Array.getD_eq_getD_getElem?, Array.getD_eq_getD_getElem?, Array.getElem?_setIfInBounds]
   by_cases hij : i = j
   · subst hij
     simp [hjs]
   · simp [hij]
 · show Nat.testBit (m ||| bit1 i) j = _
   rw [Nat.testBit_or, testBit_bit1, h.2.2 j hj]
   have : ¬ i = j := by omega
   simp [this]
theorem testBit_dep (o : Oper) (i : Nat) : Nat.testBit (depOf o) i = true ↔ ∃ e ∈ o.after, Region.binds .any e = true ∧ e.on = i := by
 unfold depOf
 rw [testBit_maskL, List.contains_iff_mem]
 simp only [List.mem_map, List.mem_filter, Array.mem_toList_iff]
 constructor
 · rintro ⟨e, ⟨h1, h2⟩, h3⟩
   exact ⟨e, h1, h2, h3⟩
 · rintro ⟨e, h1, h2, h3⟩
   exact ⟨e, ⟨h1, h2⟩, h3⟩
section
variable {P : Program} {ops : Array Oper} {listed : Array Bool} {m : Nat}
/-- Is it ready? -/
def rdy (ops : Array Oper) (listed : Array Bool) (i : Nat) : Bool := !listed.getD i true && ((ops[i]?).map (·.after.all fun e => !Region.binds .any e || listed.getD e.on false)).getD false
theorem rdy_eq (h : ML ops.size listed m) {i : Nat} {o : Oper} (ho : ops[i]? = some o) : rdy ops listed i = (no1 m (bit1 i) && subM (depOf o) m) := by
 have hi : i < ops.size := (Array.getElem?_eq_some_iff.1 ho).1
 unfold rdy
 rw [no1_bit, h.2.1 i hi, ho]
 congr 1
 simp only [Option.map_some, Option.getD_some]
 rw [Bool.eq_iff_iff, subM_iff, Array.all_eq_true_iff_forall_mem]
 constructor
 · intro hall j hj
   obtain ⟨e, he, hb, rfl⟩ := (testBit_dep o j).1 hj
   have := hall e he
   rw [hb, h.get] at this
   simpa using this
 · intro hsub e he
   cases hb : Region.binds .any e with
   | false => rfl
   | true =>
    have := hsub e.on ((testBit_dep o e.on).2 ⟨e, he, hb, rfl⟩)
    rw [h.get, this]
    rfl
theorem readyL_eq (h : ML ops.size listed m) : ∀ (l : List Oper) (i : Nat), (∀ j o, l[j]? = some o → ops[i + j]? = some o) → readyL (smL P ops l i) i m = (List.range' i l.length).filter (rdy ops listed)
 | [], _, _ => rfl
 | o :: l, i, hl => by
  have ho := hl 0 o rfl
  simp only [Nat.add_zero] at ho
  have ih := readyL_eq h l (i + 1) (fun j q hq => by
   have := hl (j + 1) q (by simpa using hq)
   rwa [show i + 1 + j = i + (j + 1) by omega])
  rw [List.length_cons, List.range'_succ, List.filter_cons, rdy_eq h ho]
  show (bif no1 m (bit1 i) then (bif subM (depOf o) m then i :: readyL (smL P ops l (i + 1)) (i + 1) m else readyL (smL P ops l (i + 1)) (i + 1) m) else readyL (smL P ops l (i + 1)) (i + 1) m) = _
  rw [ih]
  cases no1 m (bit1 i) <;> cases subM (depOf o) m <;> rfl
theorem ready_eq (h : ML ops.size listed m) : readyL (smL P ops ops.toList 0) 0 m = Region.ready .any ops listed := by
 rw [readyL_eq h ops.toList 0 (fun j o hj => by rw [Nat.zero_add, ← Array.getElem?_toList]; exact hj)]
 show _ = (List.range ops.size).filter (rdy ops listed)
 rw [List.range_eq_range', Array.length_toList]
end
def nthS : List Sm → Nat → Option Sm
 | [], _ => none
 | s :: _, 0 => some s
 | _ :: l, Nat.succ i => nthS l i
def apartS (x y : Sm) : Bool := no1 y.look x.dst && no1 y.dst x.dst && no1 x.look y.dst
/-- Is nothing that is left in the way of x? -/
def freeL (x : Sm) (m : Nat) : List Sm → Bool
 | [] => true
 | y :: l => (bif Nat.beq x.bit y.bit then true else bif no1 m y.bit then (bif no1 y.dep x.bit then apartS x y else true) else true) && freeL x m l
section
variable {P : Program} {ops : Array Oper} {listed : Array Bool} {m : Nat}
theorem no1_bitD (k : Nat) (d : Option Nat) : no1 k (bitD d) = match d with | some d => !Nat.testBit k d | none => true := by
 cases d with
 | some d => exact no1_bit k d
 | none =>
  show Nat.beq (Nat.land k 0) 0 = true
  rw [Nat.beq_eq]
  exact Nat.and_zero k
theorem apart_eq (x y : Oper) (i j : Nat) : apartS (smOf P ops i x) (smOf P ops j y) = x.apart ops y := by
 unfold apartS Oper.apart
 show (no1 (maskL (y.looksAt ops)) (bitD x.dst) && no1 (bitD y.dst) (bitD x.dst) && no1 (maskL (x.looksAt ops)) (bitD y.dst)) = _
 rw [no1_bitD, no1_bitD, no1_bitD]
 cases hx : x.dst with
 | none =>
  cases hy : y.dst with
  | none => rfl
  | some e => simp only [testBit_maskL, Bool.true_and]
 | some d =>
  cases hy : y.dst with
  | none =>
   simp only [testBit_maskL, Bool.and_true]
   show (!(y.looksAt ops).contains d && !Nat.testBit 0 d) = _
   rw [Nat.zero_testBit]
   rfl
  | some e =>
   simp only [testBit_maskL]
   show (!(y.looksAt ops).contains d && !Nat.testBit (bit1 e) d && !(x.looksAt ops).contains e) = _
   rw [testBit_bit1]
   have h1 : (some e != some d) = !decide (e = d) := by
    by_cases hed : e = d
    · subst hed
      simp
    · simp [hed]
   simp only [h1]
/-- What is asked of one that is left. -/
def frees (ops : Array Oper) (listed : Array Bool) (i : Nat) (oi : Oper) (j : Nat) : Bool := j == i || listed.getD j true || match ops[j]? with
      | some oj => oj.after.any (fun e => Region.binds .any e && e.on == i) || oi.apart ops oj
      | none => true
theorem bit1_inj {i j : Nat} (h : bit1 i = bit1 j) : i = j := by
 have := testBit_bit1 j i
 rw [← h, testBit_bit1] at this
 simp at this
 exact this.symm
theorem frees_eq (h : ML ops.size listed m) {i j : Nat} {oi oj : Oper} (hj : ops[j]? = some oj) : (bif Nat.beq (bit1 i) (bit1 j) then true else bif no1 m (bit1 j) then (bif no1 (depOf oj) (bit1 i) then apartS (smOf P ops i oi) (smOf P ops j oj) else true) else true) = frees ops listed i oi j := by
 have hjn : j < ops.size := (Array.getElem?_eq_some_iff.1 hj).1
 unfold frees
 rw [hj, h.2.1 j hjn, no1_bit, no1_bit, apart_eq]
 have he : (oj.after.any fun e => Region.binds .any e && e.on == i) = Nat.testBit (depOf oj) i := by
  rw [Bool.eq_iff_iff, testBit_dep, Array.any_eq_true']
  constructor
  · rintro ⟨e, h1, h2⟩
    simp only [Bool.and_eq_true, beq_iff_eq] at h2
    exact ⟨e, h1, h2⟩
  · rintro ⟨e, h1, h2⟩
    exact ⟨e, h1, by simp only [Bool.and_eq_true, beq_iff_eq]; exact h2⟩
 simp only [he]
 by_cases hij : j = i
 · subst hij
   simp
 · have : Nat.beq (bit1 i) (bit1 j) = false := by
    cases hb : Nat.beq (bit1 i) (bit1 j) with
    | false => rfl
    | true => exact absurd (bit1_inj (Nat.eq_of_beq_eq_true hb)).symm hij
   have h2 : (j == i) = false := by simpa using hij
   rw [this, h2]
   cases Nat.testBit m j <;> cases Nat.testBit (depOf oj) i <;> rfl
theorem freeL_eq (h : ML ops.size listed m) {i : Nat} {oi : Oper} : ∀ (l : List Oper) (j : Nat), (∀ k o, l[k]? = some o → ops[j + k]? = some o) → freeL (smOf P ops i oi) m (smL P ops l j) = (List.range' j l.length).all (frees ops listed i oi)
 | [], _, _ => rfl
 | o :: l, j, hl => by
  have ho := hl 0 o rfl
  simp only [Nat.add_zero] at ho
  have ih := freeL_eq h (i := i) (oi := oi) l (j + 1) (fun k q hq => by
   have := hl (k + 1) q (by simpa using hq)
   rwa [show j + 1 + k = j + (k + 1) by omega])
  rw [List.length_cons, List.range'_succ, List.all_cons, ← ih, ← frees_eq (P := P) h ho]
  rfl
theorem nthS_eq : ∀ (l : List Oper) (j i : Nat), nthS (smL P ops l j) i = (l[i]?).map (smOf P ops (j + i))
 | [], _, _ => rfl
 | o :: l, j, 0 => rfl
 | o :: l, j, i + 1 => by
  show nthS (smL P ops l (j + 1)) i = _
  rw [nthS_eq l (j + 1) i, List.getElem?_cons_succ, show j + 1 + i = j + (i + 1) by omega]
end
/-- Is one that is left free? -/
def freeS (sm : List Sm) (m i : Nat) : Bool := match nthS sm i with
 | some x => freeL x m sm
 | none => false
theorem freeS_eq {P : Program} {ops : Array Oper} {listed : Array Bool} {m : Nat} (h : ML ops.size listed m) (i : Nat) : freeS (smL P ops ops.toList 0) m i = Region.free .any ops listed i := by
 unfold freeS Region.free
 rw [nthS_eq, Array.getElem?_toList]
 cases ho : ops[i]? with
 | none => rfl
 | some o =>
  simp only [Option.map_some, Nat.zero_add]
  rw [freeL_eq h ops.toList 0 (fun j o hj => by rw [Nat.zero_add, ← Array.getElem?_toList]; exact hj)]
  show _ = (List.range ops.size).all (frees ops listed i o)
  rw [List.range_eq_range', Array.length_toList]
def tkS (sm : List Sm) (m i : Nat) : Bool := match nthS sm i with
 | some x => x.tk && freeL x m sm
 | none => false
theorem tkS_eq {P : Program} {ops : Array Oper} {listed : Array Bool} {m : Nat} (h : ML ops.size listed m) (i : Nat) : tkS (smL P ops ops.toList 0) m i = match ops[i]? with
      | some o => takeable P o && Region.free .any ops listed i
      | none => false := by
 have hf := freeS_eq (P := P) h i
 unfold freeS at hf
 unfold tkS
 rw [nthS_eq, Array.getElem?_toList] at hf ⊢
 cases ho : ops[i]? with
 | none => rfl
 | some o =>
  rw [ho] at hf
  simp only [Option.map_some] at hf ⊢
  rw [hf]
  rfl
/-- The order, by masks. -/
def schS (sm : List Sm) : Nat → Nat → Sch
 | 0, _ => .done
 | n + 1, m => match readyL sm 0 m with
   | [] => .done
   | [i] => .one i (fN (Nat.lor m (bit1 i)) fun m => schS sm n m)
   | rs => match rs.find? (tkS sm m) with
     | some i => .take i (fN (Nat.lor m (bit1 i)) fun m => schS sm n m)
     | none => match rs with
       | [i, j] => .two i j (fN (Nat.lor m (bit1 i)) fun m => schS sm n m) (fN (Nat.lor m (bit1 j)) fun m => schS sm n m)
       | _ => .done
def okS (sm : List Sm) : Nat → Sch → Nat → Bool
 | _, .done, m => (readyL sm 0 m).isEmpty
 | n + 1, .take i l, m => (readyL sm 0 m).contains i && freeS sm m i && fN (Nat.lor m (bit1 i)) fun m => okS sm n l m
 | n + 1, .one i l, m => (readyL sm 0 m == [i]) && fN (Nat.lor m (bit1 i)) fun m => okS sm n l m
 | n + 1, .two i j l k, m => (readyL sm 0 m == [i, j]) && (fN (Nat.lor m (bit1 i)) fun m => okS sm n l m) && fN (Nat.lor m (bit1 j)) fun m => okS sm n k m
 | 0, _, _ => false
section
variable {P : Program} {ops : Array Oper}
theorem in_ready {listed : Array Bool} {i : Nat} (h : i ∈ Region.ready .any ops listed) : i < ops.size := by
 unfold Region.ready at h
 exact List.mem_range.1 (List.mem_filter.1 h).1
theorem schS_eq : ∀ (n : Nat) (listed : Array Bool) (m : Nat), ML ops.size listed m → schS (smL P ops ops.toList 0) n m = sched P ops n listed
 | 0, _, _, _ => rfl
 | n + 1, listed, m, h => by
  have hr := ready_eq (P := P) h
  have hin : ∀ i, i ∈ readyL (smL P ops ops.toList 0) 0 m → schS (smL P ops ops.toList 0) n (Nat.lor m (bit1 i)) = sched P ops n (listed.setIfInBounds i true) := fun i hi => schS_eq n _ _ (h.set (in_ready (by rw [← hr]; exact hi)))
  have htk : tkS (smL P ops ops.toList 0) m = fun i => match ops[i]? with
      | some o => takeable P o && Region.free .any ops listed i
      | none => false := funext fun i => tkS_eq h i
  unfold schS sched
  rw [← hr]
  generalize hrs : readyL (smL P ops ops.toList 0) 0 m = rs at hin
  simp only [fN_eq, htk]
  cases rs with
  | nil => rfl
  | cons a t =>
   cases t with
   | nil =>
    simp only
    rw [hin a (by simp)]
   | cons b u =>
    simp only
    cases hf : (a :: b :: u).find? (fun i => match ops[i]? with
      | some o => takeable P o && Region.free .any ops listed i
      | none => false) with
    | some i =>
     simp only
     rw [hin i (List.mem_of_find?_eq_some hf)]
    | none =>
     cases u with
     | nil =>
      simp only
      rw [hin a (by simp), hin b (by simp)]
     | cons _ _ => rfl
theorem okS_eq : ∀ (s : Sch) (n : Nat) (listed : Array Bool) (m : Nat), ML ops.size listed m → okS (smL P ops ops.toList 0) n s m = schedOk ops n s listed := by
 intro s
 induction s with
 | done =>
  intro n listed m h
  cases n <;> (unfold okS schedOk; rw [ready_eq h])
 | take i l ih =>
  intro n listed m h
  cases n with
  | zero => rfl
  | succ n =>
   unfold okS schedOk
   rw [ready_eq h, freeS_eq h, fN_eq]
   cases hc : (Region.ready .any ops listed).contains i with
   | false => rfl
   | true => rw [ih n _ _ (h.set (in_ready (by simpa using hc)))]
 | one i l ih =>
  intro n listed m h
  cases n with
  | zero => rfl
  | succ n =>
   unfold okS schedOk
   rw [ready_eq h, fN_eq]
   cases hc : (Region.ready .any ops listed == [i]) with
   | false => rfl
   | true => rw [ih n _ _ (h.set (in_ready (by rw [beq_iff_eq.1 hc]; simp)))]
 | two i j l k ih1 ih2 =>
  intro n listed m h
  cases n with
  | zero => rfl
  | succ n =>
   unfold okS schedOk
   rw [ready_eq h, fN_eq, fN_eq]
   cases hc : (Region.ready .any ops listed == [i, j]) with
   | false => rfl
   | true => rw [ih1 n _ _ (h.set (in_ready (by rw [beq_iff_eq.1 hc]; simp))), ih2 n _ _ (h.set (in_ready (by rw [beq_iff_eq.1 hc]; simp)))]
end
end Go.Ev
