/- The reckoner is right: what reads no memory. -/
import Derived.Test.YtbmdocjeepnhmaaGreatDoorEw1
import Derived.Laws.Strings
import Derived.Great.FillDense
set_option linter.unusedVariables false
set_option linter.unusedSimpArgs false
set_option linter.unusedSectionVars false
namespace Go.Ev
open Go Go.RowKit
variable [Sy]
/-- A frame by names stands for an activation. -/
structure AR (E : List Ent) (A : Fr) (n : Nat) (a : Act) : Prop where
 size : a.tmps.size = n
 le : n ≤ 256
 defers : a.defers = []
 get : ∀ (t : Nat) (x : AV), t < 256 → Tr.get DT A t = some x → ∃ v, a.tmps[t]? = some v ∧ VV E x v
theorem bytes_self (s : ByteArray) : bytes (s.data.toList.map UInt8.toNat) = s := by
 unfold bytes
 rw [List.map_map]
 have : (UInt8.ofNat ∘ UInt8.toNat) = id := by funext x; simp
 rw [this, List.map_id]
theorem asA1_ok {E : List Ent} : ∀ (v : Value) (x : A1), asA1 v = some x → V1 E x v := by
 intro v x h
 unfold asA1 at h
 split at h <;> first
 | (injection h with h; subst h; first | rfl | exact ⟨(congrArg Value.string (bytes_self _)).symm, fun c hc => by obtain ⟨u, _, rfl⟩ := List.mem_map.1 hc; exact UInt8.toNat_lt u⟩)
 | (split at h
    · rename_i f first caps hc
      injection h with h
      subst h
      have h1 : first = #[] := Array.size_eq_zero_iff.1 hc.1
      have h2 : caps = #[] := Array.size_eq_zero_iff.1 hc.2
      subst h1; subst h2
      rfl
    · cases h)
 | cases h
theorem allSome_ok {α β γ : Type} {f : α → Option β} {R : β → γ → Prop} {g : α → γ} (hf : ∀ a b, f a = some b → R b (g a)) : ∀ (l : List α) (m : List β), allSome f l = some m → All2 R m (l.map g)
 | [], m, h => by
  cases h
  trivial
 | a :: l, m, h => by
  unfold allSome at h
  cases h1 : f a with
  | none => rw [h1] at h; cases h
  | some b =>
   cases h2 : allSome f l with
   | none => rw [h1, h2] at h; cases h
   | some m' =>
    rw [h1, h2] at h
    cases h
    exact ⟨hf a b h1, allSome_ok hf l m' h2⟩
theorem asA2_ok {E : List Ent} (v : Value) (x : A2) (h : asA2 v = some x) : V2 E x v := by
 unfold asA2 at h
 split at h
 · rename_i cs
   cases h1 : allSome asA1 cs.toList with
   | none => rw [h1] at h; cases h
   | some l =>
    rw [h1] at h
    cases h
    have := allSome_ok (R := V1 E) (g := fun v => v) (fun a b hab => asA1_ok a b hab) cs.toList l h1
    rw [List.map_id'] at this
    exact ⟨cs.toList, this, rfl⟩
 · cases h1 : asA1 v with
   | none => rw [h1] at h; cases h
   | some y =>
    rw [h1] at h
    cases h
    exact asA1_ok v y h1
theorem undef_ok {E : List Ent} : VV E undefA undef := ⟨[], trivial, rfl⟩
theorem asAV_ok {E : List Ent} (v : Value) (x : AV) (h : asAV v = some x) : VV E x v := by
 unfold asAV at h
 split at h
 · split at h
   · rename_i vs hc
     cases h
     have : vs = #[] := Array.size_eq_zero_iff.1 hc
     subst this
     exact ⟨[], trivial, rfl⟩
   · cases h
 · cases h1 : asA2 v with
   | none => rw [h1] at h; cases h
   | some y =>
    rw [h1] at h
    cases h
    exact asA2_ok v y h1
section
variable {E : List Ent} {A : Fr} {n : Nat} {a : Act}
theorem evA_ok (hr : AR E A n a) : ∀ (x : Operand) (y : AV), evA A x = some y → VV E y (a.eval x)
 | .tmp t, y, h => by
  have h : (bif Nat.blt t 256 then Tr.get DT A t else none) = some y := h
  cases hb : Nat.blt t 256 with
  | false => rw [hb] at h; cases h
  | true =>
   rw [hb] at h
   have ht : t < 256 := by
    have h1 : Nat.ble (t + 1) 256 = true := hb
    exact Nat.le_of_ble_eq_true h1
   obtain ⟨v, hv, hvv⟩ := hr.get t y ht h
   show VV E y (a.tmps.getD t undef)
   rw [Array.getD_eq_getD_getElem?, hv]
   exact hvv
 | .const v, y, h => asAV_ok v y h
 | .func f, y, h => by
  cases h
  rfl
 | .global g, y, h => by cases h
variable {P : Program}
/-- What a pure operation's proof shows. -/
def Gives (P : Program) (E : List Ent) (a : Act) (o : Oper) (y : AV) : Prop := ∃ v, VV E y v ∧ ∀ w, (execOp a.eval o).run P w = .ok (.value v) w
theorem VV.bool {E : List Ent} {x : Bool} {v : Value} (h : VV E (.v (.one (.b x))) v) : v = .bool x := h
theorem VV.int {E : List Ent} {k : IntKind} {n : Int} {v : Value} (h : VV E (.v (.one (.i k n))) v) : v = .int k n := h
theorem VV.str {E : List Ent} {l : List Nat} {v : Value} (h : VV E (.v (.one (.s l))) v) : v = .string (bytes l) ∧ ∀ c ∈ l, c < 256 := h
theorem gives_move (hr : AR E A n a) {o : Oper} {x : Operand} {y : AV} (ho : o.op = .move x ∨ o.op = .assign x) (h : evA A x = some y) : Gives P E a o y :=
 ⟨a.eval x, evA_ok hr x y h, fun w => by rcases ho with ho | ho <;> simp [execOp, ho]⟩
theorem gives_pick (hr : AR E A n a) {o : Oper} {c x z : Operand} {y : AV} {b : Bool} (ho : o.op = .pick c x z) (hc : evA A c = some (.v (.one (.b b)))) (h : evA A (if b then x else z) = some y) : Gives P E a o y := by
 have h1 := VV.bool (evA_ok hr c _ hc)
 refine ⟨a.eval (if b then x else z), evA_ok hr _ y h, fun w => ?_⟩
 cases b <;> simp [execOp, ho, h1, asBool]
theorem gives_extract (hr : AR E A n a) {o : Oper} {x : Operand} {i : Nat} {l : List A2} {y : A2} (ho : o.op = .extract x i) (hx : evA A x = some (.tup l)) (h : l[i]? = some y) : Gives P E a o (.v y) := by
 obtain ⟨vs, hvs, he⟩ := evA_ok hr x _ hx
 obtain ⟨v, hv, hvv⟩ := hvs.get i y h
 exact ⟨v, hvv, fun w => by simp [execOp, ho, he, Instr.extract, hv]⟩
theorem gives_nil (hr : AR E A n a) {o : Oper} {x : Operand} {y : AV} (ho : o.op = .nilCheck x) (h : evA A x = some y) (hy : (∃ k q, y = .v (.one (.p k q))) ∨ (∃ q, y = .v (.one (.f q)))) : Gives P E a o y := by
 have h1 := evA_ok hr x y h
 refine ⟨a.eval x, h1, fun w => ?_⟩
 rcases hy with ⟨k, q, rfl⟩ | ⟨q, rfl⟩
 · obtain ⟨b, c, _, he⟩ := h1
   simp [execOp, ho, he]
 · have he : a.eval x = .func (.func q) #[] #[] := h1
   simp [execOp, ho, he]
theorem gives_un (hr : AR E A n a) {o : Oper} {op : UnOp} {t : TypeId} {x : Operand} {z y : AV} (ho : o.op = .unOp op t x) (hx : evA A x = some z) (h : evUn op z = some y) : Gives P E a o y := by
 have h1 := evA_ok hr x z hx
 unfold evUn at h
 split at h
 · cases h
   have he := VV.bool h1
   exact ⟨_, rfl, fun w => by simp [execOp, ho, he, Op.unary]⟩
 · cases h
   have he := VV.int h1
   refine ⟨_, rfl, fun w => ?_⟩
   simp [execOp, ho, he, Op.unary, Op.intBits, bitsI]
 · cases h
/-! ### Two operands -/
theorem bitsI_and (k : IntKind) (x y : Int) : k.wrap ((BitVec.ofInt k.bits x &&& BitVec.ofInt k.bits y).toNat : Int) = bitsI (· &&& ·) k x y := by simp [bitsI]
theorem bitsI_or (k : IntKind) (x y : Int) : k.wrap ((BitVec.ofInt k.bits x ||| BitVec.ofInt k.bits y).toNat : Int) = bitsI (· ||| ·) k x y := by simp [bitsI]
theorem bitsI_xor (k : IntKind) (x y : Int) : k.wrap ((BitVec.ofInt k.bits x ^^^ BitVec.ofInt k.bits y).toNat : Int) = bitsI (· ^^^ ·) k x y := by simp [bitsI]
theorem bin_int {k k' : IntKind} {x y : Int} {op : BinOp} {t : TypeId} {r : AV} (h : evBin P op t (.v (.one (.i k x))) (.v (.one (.i k' y))) = some r) : ∃ v, VV E r v ∧ ∀ w, (binOp op t (.int k x) (.int k' y)).run P w = .ok v w := by
 cases op <;> simp only [evBin, cmpI] at h
 all_goals first
 | (split at h
    · first
      | (subst_vars
         cases h
         refine ⟨_, rfl, fun w => ?_⟩
         simp [binOp, Op.intArith, Op.intCmp, Op.intBits, bitsI, Op.intDiv, *]
         done)
      | (split at h
         · cases h
         · subst_vars
           cases h
           refine ⟨_, rfl, fun w => ?_⟩
           simp [binOp, Op.intDiv, *]
           done)
      | (cases h
         refine ⟨_, rfl, fun w => ?_⟩
         have hn : ¬ y < 0 := by omega
         simp [binOp, Op.shift, hn]
         done)
    · cases h)
 | (split at h <;> simp at h)
 | simp at h
theorem bytes_size (l : List Nat) : (bytes l).size = l.length := by
 show (l.map UInt8.ofNat).toArray.size = l.length
 simp
theorem lt256 {l : List Nat} (h : l.all (fun c => Nat.blt c 256) = true) : ∀ c ∈ l, c < 256 := fun c hc => Nat.le_of_ble_eq_true (List.all_eq_true.1 h c hc)
theorem u8_inj {c d : Nat} (hc : c < 256) (hd : d < 256) (h : UInt8.ofNat c = UInt8.ofNat d) : c = d := by
 have := congrArg UInt8.toNat h
 simp at this
 omega
theorem map_inj : ∀ {l m : List Nat}, (∀ c ∈ l, c < 256) → (∀ c ∈ m, c < 256) → l.map UInt8.ofNat = m.map UInt8.ofNat → l = m
 | [], [], _, _, _ => rfl
 | [], _ :: _, _, _, h => by simp at h
 | _ :: _, [], _, _, h => by simp at h
 | a :: l, b :: m, hl, hm, h => by
  simp only [List.map_cons, List.cons.injEq] at h
  rw [u8_inj (hl a List.mem_cons_self) (hm b List.mem_cons_self) h.1, map_inj (fun c hc => hl c (List.mem_cons_of_mem _ hc)) (fun c hc => hm c (List.mem_cons_of_mem _ hc)) h.2]
theorem toList_bytes (l : List Nat) : (bytes l).toList = l.map UInt8.ofNat := by
 rw [ByteArray.toList_eq]
 simp [bytes]
theorem beq_map {l m : List Nat} (hl : ∀ c ∈ l, c < 256) (hm : ∀ c ∈ m, c < 256) : (l.map UInt8.ofNat == m.map UInt8.ofNat) = (l == m) := by
 by_cases h : l = m
 · subst h; simp
 · have h1 : ¬ l.map UInt8.ofNat = m.map UInt8.ofNat := fun e => h (map_inj hl hm e)
   rw [beq_eq_false_iff_ne.2 h1, beq_eq_false_iff_ne.2 h]
theorem less_map : ∀ {l m : List Nat}, (∀ c ∈ l, c < 256) → (∀ c ∈ m, c < 256) → Op.bytesLess (l.map UInt8.ofNat) (m.map UInt8.ofNat) = lessL l m
 | [], [], _, _ => rfl
 | _ :: _, [], _, _ => rfl
 | [], _ :: _, _, _ => rfl
 | a :: l, b :: m, hl, hm => by
  have ha := hl a List.mem_cons_self
  have hb := hm b List.mem_cons_self
  have h1 : (UInt8.ofNat a < UInt8.ofNat b) ↔ a < b := by
   rw [UInt8.lt_iff_toNat_lt]
   simp
   omega
  have h2 : (UInt8.ofNat a == UInt8.ofNat b) = (a == b) := by
   by_cases e : a = b
   · subst e; simp
   · rw [beq_eq_false_iff_ne.2 (fun e2 => e (u8_inj ha hb e2)), beq_eq_false_iff_ne.2 e]
  have h3 := less_map (fun c hc => hl c (List.mem_cons_of_mem _ hc)) (fun c hc => hm c (List.mem_cons_of_mem _ hc))
  simp only [List.map_cons, Op.bytesLess, lessL, h2, h3]
  congr 1
  simp [h1]
theorem bytes_append (l m : List Nat) : bytes (l ++ m) = bytes l ++ bytes m := by
 apply ByteArray.ext
 simp [bytes]
theorem bin_str {l m : List Nat} {op : BinOp} {t : TypeId} {r : AV} (hl : ∀ c ∈ l, c < 256) (hm : ∀ c ∈ m, c < 256) (h : evBin P op t (.v (.one (.s l))) (.v (.one (.s m))) = some r) : ∃ v, VV E r v ∧ ∀ w, (binOp op t (.string (bytes l)) (.string (bytes m))).run P w = .ok v w := by
 have e1 := toList_bytes l
 have e2 := toList_bytes m
 have e3 := beq_map hl hm
 have e4 := less_map hl hm
 cases op <;> simp only [evBin] at h
 case add =>
  split at h
  · rename_i hlen
    cases h
    refine ⟨_, ⟨rfl, fun c hc => ?_⟩, fun w => ?_⟩
    · rcases List.mem_append.1 hc with hc | hc
      · exact hl c hc
      · exact hm c hc
    · have : ¬ (((bytes l).size + (bytes m).size : Nat) : Int) > IntKind.i64.max := by
       rw [bytes_size, bytes_size]
       have : IntKind.i64.max = 9223372036854775807 := by decide
       omega
      simp only [binOp, Op.stringOp]
      rw [if_neg this, bytes_append]
      rfl
  · cases h
 all_goals first
 | (cases h
    refine ⟨_, rfl, fun w => ?_⟩
    simp only [binOp, Op.stringOp, e1, e2, e3, e4]
    rfl)
 | cases h
end
end Go.Ev
namespace Go.Ev
open Go Go.RowKit
variable [Sy]
section
variable {E : List Ent} {A : Fr} {n : Nat} {a : Act} {P : Program}
theorem eqGuard_run {op : BinOp} {t : TypeId} {x y : Operand} {v u : Value} (h1 : v = .nilIface → u = .nilIface → False) (h2 : ∀ p q, v = .agg p → u = .agg q → False) (w : World) : (eqGuard op t x y v u).run P w = .ok () w := by
 have g1 : ∀ b : Bool, b = true → ∀ (m : Sem Unit), (if (!b) = true then pure () else m) = m := by
  intro b hb m
  subst hb
  rfl
 have g2 : ∀ b : Bool, b = false → ∀ (m : Sem Unit), (if (!b) = true then pure () else m) = pure () := by
  intro b hb m
  subst hb
  rfl
 unfold eqGuard
 cases op <;> first
 | (rw [g2 _ rfl]
    rfl)
 | (rw [g1 _ rfl]
    split
    · exact (h1 rfl rfl).elim
    · exact (h2 _ _ rfl rfl).elim
    · rfl)
theorem equal_run {t : TypeId} {v u : Value} {r : Bool} (h : ∀ w, (Op.equalIn (9999 + 1) t v u).run P w = .ok r w) (w : World) : (Op.equal t v u).run P w = .ok r w := h w
theorem eq_ok {t : TypeId} {p q : A1} {r : Bool} (h : evEq P t p q = some r) {v u : Value} (hv : V1 E p v) (hu : V1 E q u) :
  (∀ w, (Op.equal t v u).run P w = .ok r w) := by
 unfold evEq at h
 split at h
 all_goals first
 | (cases h; done)
 | skip
 all_goals (rename_i hut; injection h with h; subst h)
 all_goals refine fun w => equal_run (fun w => ?_) w
 all_goals simp only [V1] at hv hu
 all_goals first
 | (obtain ⟨_, _, _, rfl⟩ := hu; subst hv)
 | (obtain ⟨_, _, _, rfl⟩ := hv; subst hu)
 | (obtain ⟨_, _, _, rfl, _⟩ := hv; subst hu)
 | (obtain ⟨_, _, rfl⟩ := hv; subst hu)
 | (obtain ⟨_, _, rfl⟩ := hu; subst hv)
 | (subst hv; subst hu)
 all_goals (unfold Op.equalIn; simp only [Sem.run_bind, run_underlying hut])
 all_goals rfl

theorem eq_not_nil {t : TypeId} {p q : A1} {r : Bool} (h : evEq P t p q = some r) {v u : Value} (hv : V1 E p v) (hu : V1 E q u) : (v = .nilIface → u = .nilIface → False) ∧ (∀ x y, v = .agg x → u = .agg y → False) := by
 refine ⟨fun h1 h2 => ?_, fun x y h1 h2 => ?_⟩
 · subst h1; subst h2
   cases p <;> simp only [V1] at hv <;> first
   | (cases hv; done)
   | (obtain ⟨_, _, _, hv⟩ := hv; cases hv; done)
   | (obtain ⟨_, _, _, hv, _⟩ := hv; cases hv; done)
   | (obtain ⟨_, _, hv⟩ := hv; cases hv; done)
   | (obtain ⟨hv, _⟩ := hv; cases hv; done)
   | skip
   all_goals (cases q <;> simp only [V1] at hu <;> first
   | (cases hu; done)
   | (obtain ⟨_, _, _, hu⟩ := hu; cases hu; done)
   | (obtain ⟨_, _, _, hu, _⟩ := hu; cases hu; done)
   | (obtain ⟨_, _, hu⟩ := hu; cases hu; done)
   | (obtain ⟨hu, _⟩ := hu; cases hu; done)
   | skip)
   all_goals (unfold evEq at h; split at h <;> first | (cases h; done) | skip)
   all_goals simp_all
 · have := V1.oneCell p v hv
   subst h1
   cases this
theorem bin_eq {t : TypeId} {p q : A1} {r : Bool} (h : evEq P t p q = some r) {v u : Value} (hv : V1 E p v) (hu : V1 E q u) (w : World) :
  (binOp .eql t v u).run P w = .ok (.bool r) w ∧ (binOp .neq t v u).run P w = .ok (.bool (!r)) w := by
 have key := eq_ok h hv hu w
 have hne : ∀ k n, v = .int k n → False := by
  intro k n e
  subst e
  cases p <;> simp only [V1] at hv <;> first
   | (cases hv; done)
   | (obtain ⟨_, _, _, hv⟩ := hv; cases hv; done)
   | (obtain ⟨_, _, _, hv, _⟩ := hv; cases hv; done)
   | (obtain ⟨_, _, hv⟩ := hv; cases hv; done)
   | (obtain ⟨hv, _⟩ := hv; cases hv; done)
   | skip
  all_goals (unfold evEq at h; split at h <;> first | (cases h; done) | skip)
  all_goals simp_all
 have hns : ∀ s, v = .string s → False := by
  intro k e
  subst e
  cases p <;> simp only [V1] at hv <;> first
   | (cases hv; done)
   | (obtain ⟨_, _, _, hv⟩ := hv; cases hv; done)
   | (obtain ⟨_, _, _, hv, _⟩ := hv; cases hv; done)
   | (obtain ⟨_, _, hv⟩ := hv; cases hv; done)
   | (obtain ⟨hv, _⟩ := hv; cases hv; done)
   | skip
  all_goals (unfold evEq at h; split at h <;> first | (cases h; done) | skip)
  all_goals simp_all
 have hnf : ∀ k n, v = .float k n → False := by
  intro k n e
  subst e
  cases p <;> simp only [V1] at hv <;> first
   | (cases hv; done)
   | (obtain ⟨_, _, _, hv⟩ := hv; cases hv; done)
   | (obtain ⟨_, _, _, hv, _⟩ := hv; cases hv; done)
   | (obtain ⟨_, _, hv⟩ := hv; cases hv; done)
   | (obtain ⟨hv, _⟩ := hv; cases hv; done)
   | skip
  all_goals (unfold evEq at h; split at h <;> first | (cases h; done) | skip)
  all_goals simp_all
 have hnc : ∀ k n m, v = .complex k n m → False := by
  intro k n m e
  subst e
  cases p <;> simp only [V1] at hv <;> first
   | (cases hv; done)
   | (obtain ⟨_, _, _, hv⟩ := hv; cases hv; done)
   | (obtain ⟨_, _, _, hv, _⟩ := hv; cases hv; done)
   | (obtain ⟨_, _, hv⟩ := hv; cases hv; done)
   | (obtain ⟨hv, _⟩ := hv; cases hv; done)
   | skip
  all_goals (unfold evEq at h; split at h <;> first | (cases h; done) | skip)
  all_goals simp_all
 cases v <;> first
 | (exact (hne _ _ rfl).elim)
 | (exact (hns _ rfl).elim)
 | (exact (hnf _ _ rfl).elim)
 | (exact (hnc _ _ _ rfl).elim)
 | (constructor <;> simp only [binOp, Sem.run_bind, key, Result.andThen_ok, Sem.run_pure])
end
end Go.Ev
