/- Operations on letters that read no memory: they are right. -/
import Derived.Test.YtbmdocjeepnhmaaGreatDoorExB7
set_option linter.unusedVariables false
set_option linter.unusedSimpArgs false
set_option linter.unusedSectionVars false
namespace Go.Ev
open Go Go.RowKit Go.Proofs
def isCmp : BinOp → Bool
 | .eql => true
 | .neq => true
 | .lss => true
 | .leq => true
 | .gtr => true
 | .geq => true
 | _ => false
section
variable {P : Program}
theorem bin_ii {op : BinOp} {t : TypeId} {k : IntKind} {a b : Int} {r : Bool} (ho : isCmp op = true) (h : cmpI op a b = some r) : evBin P op t (ov (.i k a)) (ov (.i k b)) = some (ov (.b r)) := by
 cases op <;> first | (cases ho; done) | (unfold evBin; simp only [ov, if_true, h, Option.map_some])
theorem bin_add {t : TypeId} {k : IntKind} {a b : Int} : evBin P .add t (ov (.i k a)) (ov (.i k b)) = some (ov (.i k (k.wrap (a + b)))) := by
 unfold evBin
 simp only [ov, if_true]
theorem bin_sub {t : TypeId} {k : IntKind} {a b : Int} : evBin P .sub t (ov (.i k a)) (ov (.i k b)) = some (ov (.i k (k.wrap (a - b)))) := by
 unfold evBin
 simp only [ov, if_true]
theorem bin_or {t : TypeId} {k : IntKind} {a b : Int} : evBin P .or t (ov (.i k a)) (ov (.i k b)) = some (ov (.i k (bitsI (· ||| ·) k a b))) := by
 unfold evBin
 simp only [ov, if_true]
theorem bin_shr {t : TypeId} {k k' : IntKind} {a c : Int} (h : 0 ≤ c) : evBin P .shr t (ov (.i k a)) (ov (.i k' c)) = some (ov (.i k (a.fdiv (2 ^ (min c.toNat k.bits))))) := by
 unfold evBin
 simp only [ov, if_pos h]
theorem bin_shl {t : TypeId} {k k' : IntKind} {a c : Int} (h : 0 ≤ c) : evBin P .shl t (ov (.i k a)) (ov (.i k' c)) = some (ov (.i k (k.wrap (a * 2 ^ (min c.toNat k.bits))))) := by
 unfold evBin
 simp only [ov, if_pos h]
theorem bin_cat {t : TypeId} {a b : List Nat} (h : a.length + b.length ≤ 1000000) : evBin P .add t (ov (.s a)) (ov (.s b)) = some (ov (.s (a ++ b))) := by
 unfold evBin
 simp only [ov, if_pos h]
theorem bin_seq {t : TypeId} {a b : List Nat} {r : Bool} (h : (a == b) = r) : evBin P .eql t (ov (.s a)) (ov (.s b)) = some (ov (.b r)) := by
 unfold evBin
 simp only [ov, h]
theorem bin_sne {t : TypeId} {a b : List Nat} {r : Bool} (h : (!(a == b)) = r) : evBin P .neq t (ov (.s a)) (ov (.s b)) = some (ov (.b r)) := by
 unfold evBin
 simp only [ov, h]
end
theorem bif3 {α : Type} {c1 c2 : Bool} {x y r : α} (h : (bif c1 then some x else bif c2 then some y else none) = some r) : (c1 = true ∧ r = x) ∨ (c2 = true ∧ r = y) := by
 cases c1 with
 | true => exact .inl ⟨rfl, (Option.some.inj h).symm⟩
 | false => cases c2 with
  | true => exact .inr ⟨rfl, (Option.some.inj h).symm⟩
  | false => cases h
theorem bif1 {α : Type} {c : Bool} {x : Option α} {r : α} (h : (bif c then x else none) = some r) : c = true ∧ x = some r := by
 cases c with
 | true => exact ⟨rfl, h⟩
 | false => cases h
theorem bif2 {α : Type} {c : Bool} {x y : Option α} {r : α} (h : (bif c then x else y) = some r) : (c = true ∧ x = some r) ∨ (c = false ∧ y = some r) := by
 cases c with
 | true => exact .inl ⟨rfl, h⟩
 | false => exact .inr ⟨rfl, h⟩
section
variable {D : D2} {K : Kd} {q : Nat → Nat}
theorem wrap_i64 {a : Int} (h : -9000000000 ≤ a ∧ a ≤ 9000000000) : IntKind.wrap .i64 a = a := by
 simp [IntKind.wrap, IntKind.bits, IntKind.signed]
 omega
theorem wrap_u64 {a : Int} (h : 0 ≤ a ∧ a < 18446744073709551616) : IntKind.wrap .u64 a = a := by
 simp [IntKind.wrap, IntKind.bits, IntKind.signed]
 omega
theorem wrap_u32 {a : Int} (h : 0 ≤ a ∧ a < 4294967296) : IntKind.wrap .u32 a = a := by
 simp [IntKind.wrap, IntKind.bits, IntKind.signed]
 omega
theorem wrap_u8 {a : Int} (h : 0 ≤ a ∧ a ≤ 255) : IntKind.wrap .u8 a = a := by
 simp [IntKind.wrap, IntKind.bits, IntKind.signed]
 omega
theorem fits_ok (hK : KdOk K D) {k : IntKind} {l : Lin} (h : fits K k l = true) : k.wrap (l.val D) = l.val D := by
 cases k <;> first | (cases h; done) | skip
 all_goals (simp only [fits, Bool.and_eq_true] at h)
 · have h1 := ge_ok hK h.1
   have h2 := le_ok hK h.2
   exact wrap_i64 (by omega)
 · have h1 := ge_ok hK h.1
   have h2 := le_ok hK h.2
   exact wrap_u8 (by omega)
 · have h1 := ge_ok hK h.1
   have h2 := le_ok hK h.2
   exact wrap_u32 (by omega)
 · have h1 := ge_ok hK h.1
   have h2 := le_ok hK h.2
   exact wrap_u64 (by omega)
theorem numR_ok (hK : KdOk K D) {k : IntKind} {l : Lin} {x : A1} (h : numR K k l = some x) : dW D q x = .i k (k.wrap (l.val D)) := by
 obtain ⟨h1, h2⟩ := bif1 h
 rw [back_ok (D := D) (q := q) h2, fits_ok hK h1]
 rfl
theorem cmpL_ok (hK : KdOk K D) {op : BinOp} {d : Lin} {a b : Int} {r : Bool} (h : cmpL K op d = some r) (hd : d.val D = a - b) : isCmp op = true ∧ cmpI op a b = some r := by
 have hz : isZ d = true → a = b := fun h => by have := val_z (D := D) h; omega
 have hg : ∀ n, d.ge K n = true → n ≤ a - b := fun n h => by have := ge_ok hK h; omega
 have hl : ∀ n, d.le K n = true → a - b ≤ n := fun n h => by have := le_ok hK h; omega
 have hne : (d.ge K 1 || d.le K (-1)) = true → a ≠ b := fun h => by
  rw [Bool.or_eq_true] at h
  rcases h with h | h
  · have := hg _ h; omega
  · have := hl _ h; omega
 cases op <;> first | (cases h; done) | skip
 all_goals refine ⟨rfl, ?_⟩
 all_goals (rcases bif3 h with ⟨h1, rfl⟩ | ⟨h1, rfl⟩)
 · have := hz h1; subst this; simp [cmpI]
 · have := hne h1; simp [cmpI, this]
 · have := hz h1; subst this; simp [cmpI]
 · have := hne h1; simp [cmpI, this]
 · have := hl _ h1; simp [cmpI]; omega
 · have := hg _ h1; simp [cmpI]; omega
 · have := hl _ h1; simp [cmpI]; omega
 · have := hg _ h1; simp [cmpI]; omega
 · have := hg _ h1; simp [cmpI]; omega
 · have := hl _ h1; simp [cmpI]; omega
 · have := hg _ h1; simp [cmpI]; omega
 · have := hl _ h1; simp [cmpI]; omega
theorem unlike_ok : ∀ {l m : List Sym}, unlike l m = true → strB D q l ≠ strB D q m
 | .by a :: l, .by b :: m, h => by
  unfold unlike at h
  show a :: strB D q l ≠ b :: strB D q m
  cases hb : Nat.beq a b with
  | true =>
   rw [hb, cond_true] at h
   intro e
   injection e with _ e
   exact unlike_ok h e
  | false =>
   intro e
   injection e with e _
   subst e
   rw [Nat.beq_refl] at hb
   cases hb
 | [], _, h => by cases h
 | _ :: _, [], h => by unfold unlike at h; split at h <;> first | (cases h; done) | (rename_i e; cases e)
 | .by _ :: _, .txt _ :: _, h | .by _ :: _, .dig _ :: _, h | .by _ :: _, .zer _ :: _, h | .by _ :: _, .lin _ :: _, h | .by _ :: _, .bt _ _ :: _, h => by cases h
 | .txt _ :: _, _ :: _, h | .dig _ :: _, _ :: _, h | .zer _ :: _, _ :: _, h | .lin _ :: _, _ :: _, h | .bt _ _ :: _, _ :: _, h => by cases h
theorem differ_ok (hK : KdOk K D) {l m : List Sym} (hl : wfS K l = true) (hm : wfS K m = true) (h : differ K l m = true) : strB D q l ≠ strB D q m := by
 unfold differ at h
 simp only [Bool.or_eq_true] at h
 rcases h with (h | h) | h
 · exact unlike_ok h
 · intro e
   have h1 := ge_ok hK h
   rw [val_sub, lenS_ok (q := q) hK hl, lenS_ok (q := q) hK hm, e] at h1
   omega
 · intro e
   have h1 := ge_ok hK h
   rw [val_sub, lenS_ok (q := q) hK hl, lenS_ok (q := q) hK hm, e] at h1
   omega
theorem bits_or {a b : Nat} (ha : a < 18446744073709551616) (hb : b < 18446744073709551616) : bitsI (· ||| ·) .u64 (a : Int) (b : Int) = ((a ||| b : Nat) : Int) := by
 have e : ∀ n : Nat, n < 18446744073709551616 → (BitVec.ofInt IntKind.u64.bits (n : Int)).toNat = n := by
  intro n hn
  rw [BitVec.toNat_ofInt]
  show ((n : Int) % ((2 ^ 64 : Nat) : Int)).toNat = n
  omega
 have hlt : a ||| b < 18446744073709551616 := Nat.or_lt_two_pow (n := 64) ha hb
 unfold bitsI
 rw [e a ha, e b hb]
 have h3 : ((a ||| b : Nat) : Int) < ((18446744073709551616 : Nat) : Int) := Int.ofNat_lt.2 hlt
 exact wrap_u64 ⟨Int.natCast_nonneg _, h3⟩
theorem fdiv_nat (a m : Nat) : Int.fdiv (a : Int) (2 ^ m) = ((a / 2 ^ m : Nat) : Int) := by
 have : (2 : Int) ^ m = ((2 ^ m : Nat) : Int) := by simp
 rw [this]
 exact (Int.ofNat_fdiv _ _).symm
theorem bits_ge (k : IntKind) : 8 ≤ k.bits := by cases k <;> decide
theorem pow256 (n : Nat) : 256 ^ n = 2 ^ (8 * n) := by rw [Nat.pow_mul]
theorem crc_or (x : Nat) : x % 256 ||| x / 256 * 256 = x := by
 have h := Nat.shiftLeft_add_eq_or_of_lt (b := x % 256) (i := 8) (Nat.mod_lt _ (by decide)) (x / 256)
 rw [Nat.or_comm, show x / 256 * 256 = (x / 256) <<< 8 by rw [Nat.shiftLeft_eq], ← h, Nat.shiftLeft_eq]
 omega
theorem div_step (x j : Nat) : x / 256 ^ (j + 1) = x / 256 ^ j / 256 := by rw [Nat.pow_succ, Nat.div_div_eq_div_mul]
/-- Sums are below 2^32; the other numbers are small. -/
def qOk (q : Nat → Nat) : Prop := ∀ i, q i < 4294967296
theorem crc_lt (hq : qOk q) (i j : Nat) : q i / 256 ^ j < 4294967296 := Nat.lt_of_le_of_lt (Nat.div_le_self _ _) (hq i)
theorem va_lt (hK : KdOk K D) (hq : qOk q) {v : Va} (hw : v.wf K = true) : v.val D q < 4294967296 := by
 cases v with
 | crc i => exact hq i
 | lin l =>
  have hw : (l.ge K 0 && l.le K 65535) = true := hw
  rw [Bool.and_eq_true] at hw
  have := le_ok hK hw.2
  show (l.val D).toNat < _
  omega
 | mn c l =>
  have hw : (l.ge K 0 && Nat.ble c 4095) = true := hw
  rw [Bool.and_eq_true] at hw
  have := Nat.le_of_ble_eq_true hw.2
  have h2 : Nat.min c (l.val D).toNat ≤ c := Nat.min_le_left _ _
  show Nat.min c _ < _
  omega
 | md c d l =>
  have hw : (l.ge K 0 && Nat.ble c d && Nat.ble d 4095) = true := hw
  simp only [Bool.and_eq_true] at hw
  have := Nat.le_of_ble_eq_true hw.2
  have h2 : Nat.min d (l.val D).toNat ≤ d := Nat.min_le_left _ _
  show Nat.min d _ - _ < _
  omega
theorem va_small (hK : KdOk K D) {v : Va} (hw : v.wf K = true) (hs : v.small = true) : v.val D q < 65536 := by
 cases v with
 | crc i => cases hs
 | lin l =>
  have hw : (l.ge K 0 && l.le K 65535) = true := hw
  rw [Bool.and_eq_true] at hw
  have := le_ok hK hw.2
  show (l.val D).toNat < _
  omega
 | mn c l =>
  have hw : (l.ge K 0 && Nat.ble c 4095) = true := hw
  rw [Bool.and_eq_true] at hw
  have := Nat.le_of_ble_eq_true hw.2
  have h2 : Nat.min c (l.val D).toNat ≤ c := Nat.min_le_left _ _
  show Nat.min c _ < _
  omega
 | md c d l =>
  have hw : (l.ge K 0 && Nat.ble c d && Nat.ble d 4095) = true := hw
  simp only [Bool.and_eq_true] at hw
  have := Nat.le_of_ble_eq_true hw.2
  have h2 : Nat.min d (l.val D).toNat ≤ d := Nat.min_le_left _ _
  show Nat.min d _ - _ < _
  omega
theorem wf_str {l : List Sym} (h : wfL K (.str l) = true) : wfS K l = true := h
theorem cutOf_ok (hK : KdOk K D) {l : Lin} {u : Lt} {c : Nat} (hl : 0 ≤ l.val D) (h : cutOf K l u = some c) : u.den D q = .i .i64 ((Nat.min c (l.val D).toNat : Nat) : Int) := by
 unfold cutOf at h
 split at h
 · rename_i m
   rcases bif2 h with ⟨h1, h⟩ | ⟨_, h⟩
   · have h2 := (bif1 h).1
     replace h := (bif1 h).2
     cases h
     have h2 := le_ok hK h2
     rw [Lin.eq_ok h1]
     show A1.i .i64 (l.val D) = _
     rw [show Nat.min 4095 (l.val D).toNat = (l.val D).toNat from Nat.min_eq_right (by omega)]
     congr 1
     omega
   · have h1 := (bif1 h).1
     replace h := (bif1 h).2
     rw [Bool.and_eq_true] at h1
     have h2 := ge_ok hK h1.2
     have h3 := natK_ok (D := D) h
     rw [val_const h1.1] at h3
     show A1.i .i64 (m.val D) = _
     rw [val_const h1.1, h3, show Nat.min c (l.val D).toNat = c from Nat.min_eq_left (by omega)]
 · rename_i c' m
   have h1 := (bif1 h).1
   replace h := (bif1 h).2
   cases h
   rw [Lin.eq_ok h1]
   show A1.i .i64 ((Nat.min c (l.val D).toNat / 256 ^ 0 : Nat) : Int) = _
   rw [Nat.pow_zero, Nat.div_one]
 · cases h
theorem subC_ok {P : Program} (hK : KdOk K D) {l : Lin} {x y : Lt} {r : A1} {t : TypeId} (h : subC K l x y = some r) : evBin P .sub t (ov (x.den D q)) (ov (y.den D q)) = some (ov (dW D q r)) := by
 unfold subC at h
 split at h
 · rename_i c d h1 h2
   have h3 := (bif1 h).1
   replace h := (bif1 h).2
   simp only [Bool.and_eq_true] at h3
   obtain ⟨⟨h3, h4⟩, h5⟩ := h3
   have h3 := Nat.le_of_ble_eq_true h3
   have h4 := Nat.le_of_ble_eq_true h4
   have h5 := ge_ok hK h5
   have hmin : Nat.min c (l.val D).toNat ≤ Nat.min d (l.val D).toNat := Nat.le_min.2 ⟨Nat.le_trans (Nat.min_le_left _ _) h3, Nat.min_le_right _ _⟩
   have hd : Nat.min d (l.val D).toNat ≤ d := Nat.min_le_left _ _
   rw [cutOf_ok (q := q) hK h5 h1, cutOf_ok (q := q) hK h5 h2, letter_ok (D := D) (q := q) h, bin_sub]
   show some (ov (A1.i .i64 _)) = some (ov (A1.i .i64 (((Nat.min d (l.val D).toNat - Nat.min c (l.val D).toNat) / 256 ^ 0 : Nat) : Int)))
   generalize Nat.min d (l.val D).toNat = y at hmin hd
   generalize Nat.min c (l.val D).toNat = z at hmin
   rw [Nat.pow_zero, Nat.div_one, wrap_i64 (by omega), show ((y : Nat) : Int) - ((z : Nat) : Int) = ((y - z : Nat) : Int) by omega]
 · cases h
theorem pow_small {j : Nat} (h : 2 ≤ j) {x : Nat} (hx : x < 65536) : x / 256 ^ j = 0 := by
 apply Nat.div_eq_of_lt
 have : 256 ^ 2 ≤ 256 ^ j := Nat.pow_le_pow_right (by decide) h
 omega
theorem shr_val {P : Program} {t : TypeId} {k' : IntKind} (x j n : Nat) (h8 : n % 8 = 0) (h64 : n ≤ 64) : evBin P .shr t (ov (.i .u64 ((x / 256 ^ j : Nat) : Int))) (ov (.i k' (n : Nat))) = some (ov (.i .u64 ((x / 256 ^ (j + n / 8) : Nat) : Int))) := by
 rw [bin_shr (Int.natCast_nonneg n)]
 show some (ov (A1.i .u64 (Int.fdiv _ (2 ^ min n 64)))) = _
 rw [Nat.min_eq_left h64, fdiv_nat, Nat.pow_add, ← Nat.div_div_eq_div_mul, pow256 (n / 8), show 8 * (n / 8) = n by omega]
theorem mdHi_ok (hK : KdOk K D) (c d : Nat) (l : Lin) : Nat.min d (l.val D).toNat - Nat.min c (l.val D).toNat ≤ mdHi K c d l := by
 have h1 := hi_ok hK l
 have h2 : Nat.min d (l.val D).toNat ≤ d := Nat.min_le_left _ _
 have h3 : Nat.min d (l.val D).toNat ≤ (l.val D).toNat := Nat.min_le_right _ _
 have h4 : Nat.min c (l.val D).toNat = c ∨ Nat.min c (l.val D).toNat = (l.val D).toNat := by
  rcases Nat.le_total c (l.val D).toNat with h | h
  · exact .inl (Nat.min_eq_left h)
  · exact .inr (Nat.min_eq_right h)
 unfold mdHi
 refine Nat.le_min.2 ⟨?_, ?_⟩
 · omega
 · omega
set_option maxHeartbeats 4000000 in
theorem binL_ok {P : Program} (hK : KdOk K D) (hq : qOk q) {op : BinOp} {u v : Lt} (hu : wfL K u = true) (hv : wfL K v = true) {r : A1} (h : binL K op u v = some r) (t : TypeId) : evBin P op t (ov (u.den D q)) (ov (v.den D q)) = some (ov (dW D q r)) := by
 unfold binL at h
 split at h
 · rename_i k l k' m
   show evBin P op t (ov (.i k (l.val D))) (ov (.i k' (m.val D))) = _
   split at h
   · have hc := (bif1 h).1
     replace h := (bif1 h).2
     simp only [Bool.and_eq_true] at hc
     obtain ⟨⟨hc, h0⟩, hk⟩ := hc
     obtain rfl := eqK_ok hk
     have h0 := ge_ok hK h0
     rw [val_const hc]
     obtain ⟨x, hx⟩ : ∃ x : Nat, l.val D = x := ⟨(l.val D).toNat, by omega⟩
     split at h
     · rename_i n hn
       rw [hn]
       rcases bif2 h with ⟨hz, hr⟩ | ⟨hnz, hr⟩ <;> clear h
       · obtain rfl := Nat.eq_of_beq_eq_true hz
         rw [back_ok (D := D) (q := q) hr]
         have := shr_val (P := P) (t := t) (k' := k') x 0 0 rfl (by decide)
         rw [Nat.pow_zero, Nat.div_one] at this
         rw [hx]
         show _ = some (ov (A1.i .u64 (l.val D)))
         rw [hx]
         exact this
       · obtain ⟨h8, h⟩ := bif1 hr
         clear hr
         rw [Bool.and_eq_true] at h8
         have h64 := Nat.le_of_ble_eq_true h8.2
         have h8' := Nat.eq_of_beq_eq_true h8.1
         have hnz : n ≠ 0 := fun e => by subst e; cases hnz
         have hs := shr_val (P := P) (t := t) (k' := k') x 0 n h8' h64
         rw [Nat.pow_zero, Nat.div_one, Nat.zero_add] at hs
         rw [hx]
         show evBin P .shr t (ov (.i .u64 ((x : Nat) : Int))) (ov (.i k' (n : Nat))) = _
         rw [hs]
         rcases bif2 h with ⟨h1, hr⟩ | ⟨_, hr⟩ <;> clear h
         · cases hr
           have h1 := le_ok hK h1
           rw [show x / 256 ^ (n / 8) = 0 from Nat.div_eq_of_lt (by
            have : 256 ^ 1 ≤ 256 ^ (n / 8) := Nat.pow_le_pow_right (by decide) (by omega)
            omega)]
           rfl
         · obtain ⟨h1, h⟩ := bif1 hr
           clear hr
           have h1 := le_ok hK h1
           rcases bif2 h with ⟨h2, hr⟩ | ⟨h2, hr⟩ <;> clear h
           · obtain rfl := Nat.eq_of_beq_eq_true h2
             rw [letter_ok (D := D) (q := q) hr]
             show _ = some (ov (A1.i .u64 (((l.val D).toNat / 256 ^ 1 : Nat) : Int)))
             rw [hx]
             rfl
           · cases hr
             have h2 : n ≠ 8 := fun e => by subst e; simp at h2
             rw [pow_small (by omega) (by omega)]
             rfl
     · cases h
   · have hc := (bif1 h).1
     replace h := (bif1 h).2
     cases h
     simp only [Bool.and_eq_true] at hc
     obtain ⟨⟨⟨h1, h2⟩, h3⟩, h4⟩ := hc
     have g := ge_ok hK h4
     rw [val_const h1, eqI_ok h2, bin_shl g, Int.zero_mul]
     have : k.wrap 0 = 0 := by cases k <;> rfl
     rw [this]
     rfl
   · have hk := (bif1 h).1
     replace h := (bif1 h).2
     obtain rfl := eqK_ok hk
     rw [bin_add, numR_ok (q := q) hK h, val_add]
   · have hk := (bif1 h).1
     replace h := (bif1 h).2
     obtain rfl := eqK_ok hk
     rw [bin_sub, numR_ok (q := q) hK h, val_sub]
   · have hk := (bif1 h).1
     replace h := (bif1 h).2
     rw [Bool.and_eq_true] at hk
     obtain rfl := eqK_ok hk.1
     obtain rfl := eqK_ok hk.2
     rw [bin_or]
     rcases bif2 h with ⟨h0, h⟩ | ⟨_, h⟩
     · rw [Bool.and_eq_true] at h0
       rw [val_z h0.1, back_ok (D := D) (q := q) h]
       have h2 := h0.2
       simp only [fits, Bool.and_eq_true] at h2
       have g1 := ge_ok hK h2.1
       have g2 := le_ok hK h2.2
       obtain ⟨n, hn⟩ : ∃ n : Nat, m.val D = n := ⟨(m.val D).toNat, by omega⟩
       show some (ov (A1.i .u64 (bitsI _ .u64 ((0 : Nat) : Int) (m.val D)))) = some (ov (A1.i .u64 (m.val D)))
       rw [hn, bits_or (by decide) (by omega), Nat.zero_or]
     · have h0 := (bif1 h).1
       replace h := (bif1 h).2
       rw [Bool.and_eq_true] at h0
       rw [val_z h0.1, back_ok (D := D) (q := q) h]
       have h2 := h0.2
       simp only [fits, Bool.and_eq_true] at h2
       have g1 := ge_ok hK h2.1
       have g2 := le_ok hK h2.2
       obtain ⟨n, hn⟩ : ∃ n : Nat, l.val D = n := ⟨(l.val D).toNat, by omega⟩
       show some (ov (A1.i .u64 (bitsI _ .u64 (l.val D) ((0 : Nat) : Int)))) = some (ov (A1.i .u64 (l.val D)))
       rw [hn, bits_or (by omega) (by decide), Nat.or_zero]
   · have hk := (bif1 h).1
     replace h := (bif1 h).2
     obtain rfl := eqK_ok hk
     cases hc : cmpL K op (l.sub m) with
     | none => simp [hc] at h
     | some b =>
      simp only [hc, Option.map_some, Option.some.injEq] at h
      subst h
      obtain ⟨g1, g2⟩ := cmpL_ok hK hc (val_sub D l m)
      rw [bin_ii g1 g2]
      rfl
 · rename_i l m
   have hl := wf_str hu
   have hm := wf_str hv
   show evBin P op t (ov (.s (strB D q l))) (ov (.s (strB D q m))) = _
   split at h
   · have h1 := (bif1 h).1
     replace h := (bif1 h).2
     have g := le_ok hK h1
     rw [val_add, lenS_ok (q := q) hK hl, lenS_ok (q := q) hK hm] at g
     rw [bin_cat (by omega), back_ok (D := D) (q := q) h]
     show _ = some (ov (A1.s (strB D q (l ++ m))))
     rw [strB_app]
   · rcases bif2 h with ⟨h1, h⟩ | ⟨_, h⟩
     · cases h
       rw [eqS_ok h1]
       exact bin_seq (by simp)
     · have h1 := (bif1 h).1
       replace h := (bif1 h).2
       cases h
       exact bin_seq (by simpa using differ_ok hK hl hm h1)
   · rcases bif2 h with ⟨h1, h⟩ | ⟨_, h⟩
     · cases h
       rw [eqS_ok h1]
       exact bin_sne (by simp)
     · have h1 := (bif1 h).1
       replace h := (bif1 h).2
       cases h
       exact bin_sne (by simpa using differ_ok hK hl hm h1)
   · cases h
 · rename_i k v j k' m
   split at h
   · have hc := (bif1 h).1
     replace h := (bif1 h).2
     rw [Bool.and_eq_true] at hc
     obtain rfl := eqK_ok hc.2
     show evBin P .shr t (ov (.i .u64 ((v.val D q / 256 ^ j : Nat) : Int))) (ov (.i k' (m.val D))) = _
     rw [val_const hc.1]
     split at h
     · rename_i n hn
       have h8 := (bif1 h).1
       replace h := (bif1 h).2
       rw [Bool.and_eq_true] at h8
       have h64 := Nat.le_of_ble_eq_true h8.2
       have h8' := Nat.eq_of_beq_eq_true h8.1
       rw [hn]
       have hs := shr_val (P := P) (t := t) (k' := k') (v.val D q) j n h8' h64
       refine hs.trans ?_
       rcases bif2 h with ⟨h1, h⟩ | ⟨_, h⟩
       · rcases bif2 h with ⟨h2, h⟩ | ⟨_, h⟩
         · cases h
           rw [pow_small (Nat.le_of_ble_eq_true h2) (va_small hK hu h1)]
           rfl
         · rw [letter_ok (D := D) (q := q) h]
           rfl
       · replace h := (bif1 h).2
         rw [letter_ok (D := D) (q := q) h]
         rfl
     · cases h
   · have hc := (bif1 h).1
     replace h := (bif1 h).2
     simp only [Bool.and_eq_true] at hc
     obtain ⟨⟨⟨h1, h2⟩, h3⟩, h4⟩ := hc
     obtain rfl := eqK_ok h4
     have h3 := Nat.le_of_ble_eq_true h3
     split at h
     · rename_i i
       rw [letter_ok (D := D) (q := q) h]
       show evBin P .shl t (ov (.i .u64 ((q i / 256 ^ j : Nat) : Int))) (ov (.i k' (m.val D))) = _
       rw [val_const h2, eqI_ok h1, bin_shl (by decide)]
       have hlt : q i / 256 ^ j < 16777216 := by
        have h5 : 256 ^ 1 ≤ 256 ^ j := Nat.pow_le_pow_right (by decide) h3
        have h6 := hq i
        have h7 : q i / 256 ^ j ≤ q i / 256 ^ 1 := Nat.div_le_div_left h5 (by decide)
        omega
       show some (ov (A1.i .u64 (IntKind.u64.wrap (((q i / 256 ^ j : Nat) : Int) * 256)))) = some (ov (A1.i .u64 ((q i / 256 ^ j * 256 : Nat) : Int)))
       generalize q i / 256 ^ j = x at hlt ⊢
       rw [wrap_u64 (by omega), Int.natCast_mul]
       rfl
     · cases h
   · split at h
     · exact subC_ok hK h
     · cases h
   · cases h
 · rename_i m c l
   split at h
   · exact subC_ok hK h
   · cases h
 · rename_i v j v' j'
   split at h
   · have hc := (bif1 h).1
     replace h := (bif1 h).2
     rw [Bool.and_eq_true] at hc
     obtain rfl := Va.eq_ok hc.1
     obtain rfl := Nat.eq_of_beq_eq_true hc.2
     split at h
     · rename_i i
       rw [letter_ok (D := D) (q := q) h]
       show evBin P .or t (ov (.i .u64 ((q i / 256 ^ j % 256 : Nat) : Int))) (ov (.i .u64 ((q i / 256 ^ (j + 1) * 256 : Nat) : Int))) = some (ov (A1.i .u64 ((q i / 256 ^ j : Nat) : Int)))
       have hb := crc_lt hq i j
       rw [bin_or, bits_or (by omega) (by rw [div_step]; omega), div_step, crc_or]
     · cases h
   · cases h
 · rename_i v' j' v j
   split at h
   · have hc := (bif1 h).1
     replace h := (bif1 h).2
     rw [Bool.and_eq_true] at hc
     obtain rfl := Va.eq_ok hc.1
     obtain rfl := Nat.eq_of_beq_eq_true hc.2
     split at h
     · rename_i i
       rw [letter_ok (D := D) (q := q) h]
       show evBin P .or t (ov (.i .u64 ((q i / 256 ^ (j + 1) * 256 : Nat) : Int))) (ov (.i .u64 ((q i / 256 ^ j % 256 : Nat) : Int))) = some (ov (A1.i .u64 ((q i / 256 ^ j : Nat) : Int)))
       have hb := crc_lt hq i j
       rw [bin_or, bits_or (by rw [div_step]; omega) (by omega), div_step, Nat.or_comm, crc_or]
     · cases h
   · cases h
 · rename_i l i j
   split at h
   · have hc := (bif1 h).1
     replace h := (bif1 h).2
     rw [letter_ok (D := D) (q := q) h]
     show evBin P .or t (ov (.i .u64 (l.val D))) (ov (.i .u64 ((q i / 256 ^ j : Nat) : Int))) = some (ov (A1.i .u64 ((q i / 256 ^ j : Nat) : Int)))
     have hb := crc_lt hq i j
     rw [bin_or, val_z hc]
     show some (ov (A1.i .u64 (bitsI _ .u64 ((0 : Nat) : Int) _))) = _
     rw [bits_or (by decide) (by omega), Nat.zero_or]
   · cases h
 · rename_i k v j k' v' j' _
   split at h
   · split at h
     · exact subC_ok hK h
     · cases h
   · have hc := (bif1 h).1
     replace h := (bif1 h).2
     cases h
     simp only [Bool.and_eq_true] at hc
     obtain ⟨⟨hk, h1⟩, h2⟩ := hc
     obtain rfl := eqK_ok hk
     obtain rfl := Va.eq_ok h1
     obtain rfl := Nat.eq_of_beq_eq_true h2
     exact bin_ii rfl (by simp [cmpI])
   · have hc := (bif1 h).1
     replace h := (bif1 h).2
     cases h
     simp only [Bool.and_eq_true] at hc
     obtain ⟨⟨hk, h1⟩, h2⟩ := hc
     obtain rfl := eqK_ok hk
     obtain rfl := Va.eq_ok h1
     obtain rfl := Nat.eq_of_beq_eq_true h2
     exact bin_ii rfl (by simp [cmpI])
   · cases h
 · rename_i n c d l m
   split at h
   · have hc := (bif1 h).1
     replace h := (bif1 h).2
     cases h
     rw [Bool.and_eq_true] at hc
     have h1 := geI_ok hc.2
     have h2 := mdHi_ok hK c d l
     show evBin P .gtr t (ov (.i .i64 ((n + (Nat.min d (l.val D).toNat - Nat.min c (l.val D).toNat) : Nat) : Int))) (ov (.i .i64 (m.val D))) = _
     rw [val_const hc.1]
     refine bin_ii rfl ?_
     have h1 : ((n + mdHi K c d l : Nat) : Int) ≤ m.c := h1
     simp [cmpI]
     omega
   · cases h
 · cases h
end
end Go.Ev
namespace Go.Ev
open Go Go.RowKit Go.Proofs
section
variable [Sy]
def deepH (h : Hp) : Hp := ⟨Tr.map deepC (denH h).t, h.n⟩
theorem get_deepH (h : Hp) (k : Nat) : (deepH h).get k = (h.get k).map deepO := by
 show Tr.get D (Tr.map deepC (denH h).t) k = _
 rw [Tr.get_map]
 show ((denH h).get k).map deepC = _
 rw [get_denH]
 cases h.get k <;> rfl
def cellU : U → U
 | .put k o => .put k (deepC o)
 | .new o => .new (deepC o)
 | .del k => .del k
def deepU : U → U
 | .put k o => .put k (deepO o)
 | .new o => .new (deepO o)
 | .del k => .del k
def cellsH (h : Hp) : Hp := ⟨Tr.map deepC h.t, h.n⟩
theorem apU_cells : ∀ (us : List U) (h : Hp), cellsH (apU h us) = apU (cellsH h) (us.map cellU)
 | [], _ => rfl
 | .put k o :: r, h => by
  show cellsH (apU (h.put k o) r) = apU ((cellsH h).put k (deepC o)) (r.map cellU)
  rw [apU_cells r]
  congr 1
  show Hp.mk (Tr.map deepC (Tr.set D h.t k (some o))) h.n = Hp.mk (Tr.set D (Tr.map deepC h.t) k (some (deepC o))) h.n
  rw [Tr.map_set]
  rfl
 | .new o :: r, h => by
  show cellsH (apU (h.new o) r) = apU ((cellsH h).new (deepC o)) (r.map cellU)
  rw [apU_cells r]
  congr 1
  show Hp.mk (Tr.map deepC (Tr.set D h.t h.n (some o))) (h.n + 1) = Hp.mk (Tr.set D (Tr.map deepC h.t) h.n (some (deepC o))) (h.n + 1)
  rw [Tr.map_set]
  rfl
 | .del k :: r, h => by
  show cellsH (apU (h.del k) r) = apU ((cellsH h).del k) (r.map cellU)
  rw [apU_cells r]
  congr 1
  show Hp.mk (Tr.map deepC (Tr.set D h.t k none)) h.n = Hp.mk (Tr.set D (Tr.map deepC h.t) k none) h.n
  rw [Tr.map_set]
  rfl
theorem deepU_eq : ∀ us : List U, (us.map denU).map cellU = us.map deepU
 | [] => rfl
 | .put k o :: r => by rw [List.map_cons, List.map_cons, List.map_cons, deepU_eq r]; rfl
 | .new o :: r => by rw [List.map_cons, List.map_cons, List.map_cons, deepU_eq r]; rfl
 | .del k :: r => by rw [List.map_cons, List.map_cons, List.map_cons, deepU_eq r]; rfl
variable {E : List Ent} {A : Fr} {n : Nat} {a : Act} {P : Program} {w0 : Base} {w : World} {h : Hp}
theorem cells_iff (l : List A1) (m : List Value) : All2 (V1 E) l m ↔ All2 (V1 E) (l.map A1.den) m := All2.map_left (V1_den E) l m
theorem OK_cells {k : Nat} {o : AO} : OK E w k o ↔ OK E w k (deepC o) := by
 cases o with
 | cells t l =>
  constructor
  · rintro ⟨b, c, h1, cs, fr, h2, h3, h4⟩
    exact ⟨b, c, h1, cs, fr, h2, h3, (cells_iff l _).1 h4⟩
  · rintro ⟨b, c, h1, cs, fr, h2, h3, h4⟩
    exact ⟨b, c, h1, cs, fr, h2, h3, (cells_iff l _).2 h4⟩
 | row t z l =>
  constructor
  · rintro ⟨b, c, h1, cs, fr, h2, h3, h4, h5, h6⟩
    refine ⟨b, c, h1, cs, fr, h2, h3, h4, h5, ?_⟩
    rw [List.length_map]
    exact (cells_iff l _).1 h6
  · rintro ⟨b, c, h1, cs, fr, h2, h3, h4, h5, h6⟩
    refine ⟨b, c, h1, cs, fr, h2, h3, h4, h5, ?_⟩
    rw [List.length_map] at h6
    exact (cells_iff l _).2 h6
 | _ => exact Iff.rfl
theorem get_cellsH (h : Hp) (k : Nat) : (cellsH h).get k = (h.get k).map deepC := Tr.get_map _ _ _ _
theorem Rep.cells : Rep w0 E h w ↔ Rep w0 E (cellsH h) w := by
 have back : ∀ k o, (cellsH h).get k = some o → ∃ q, h.get k = some q ∧ o = deepC q := fun k o ho => by
  rw [get_cellsH] at ho
  cases hg : h.get k with
  | none => simp [hg] at ho
  | some q => exact ⟨q, rfl, by simpa [hg] using ho.symm⟩
 have forth : ∀ k o, h.get k = some o → (cellsH h).get k = some (deepC o) := fun k o ho => by rw [get_cellsH, ho]; rfl
 constructor
 · intro hr
   refine ⟨hr.below, hr.len, hr.bound, fun k o hk ho => ?_, fun k hk hd => ?_, fun k k' o o' b c c' hk hk' ho ho' h1 h2 => ?_, fun k o b c hk ho he => ?_⟩
   · obtain ⟨q, h1, rfl⟩ := back k o ho
     exact OK_cells.1 (hr.obj k q hk h1)
   · rw [get_cellsH, hr.free k hk hd]
     rfl
   · obtain ⟨q, g1, rfl⟩ := back k o ho
     obtain ⟨q', g2, rfl⟩ := back k' o' ho'
     exact hr.sep k k' q q' b c c' hk hk' g1 g2 h1 h2
   · obtain ⟨q, g1, rfl⟩ := back k o ho
     exact hr.old k q b c hk g1 he
 · intro hr
   refine ⟨hr.below, hr.len, hr.bound, fun k o hk ho => ?_, fun k hk hd => ?_, fun k k' o o' b c c' hk hk' ho ho' h1 h2 => ?_, fun k o b c hk ho he => ?_⟩
   · exact OK_cells.2 (hr.obj k _ hk (forth k o ho))
   · have := hr.free k hk hd
     rw [get_cellsH] at this
     cases hg : h.get k with
     | none => rfl
     | some q => simp [hg] at this
   · exact hr.sep k k' _ _ b c c' hk hk' (forth k o ho) (forth k' o' ho') h1 h2
   · exact hr.old k _ b c hk (forth k o ho) he
theorem Rep.deep (hr : Rep w0 E h w) : Rep w0 E (deepH h) w := Rep.cells.1 hr.den
theorem Rep.undeep (hr : Rep w0 E (deepH h) w) : Rep w0 E h w := Rep.undenH (Rep.cells.2 hr)
theorem apU_deep (us : List U) (h : Hp) : deepH (apU h us) = apU (deepH h) (us.map deepU) := by
 show cellsH (denH (apU h us)) = apU (cellsH (denH h)) (us.map deepU)
 rw [apU_den, apU_cells, deepU_eq]
theorem turns_readD {o : Oper} {r : AV} (ha : AR E A n a) (hr : Rep w0 E h w) (hp : evRead P (denF A) (deepH h) o = some (denV r)) : Turns P w0 E a w o r (apU h []) := by
 obtain ⟨v, h1, h2⟩ := evRead_ok ha.den hr.deep hp
 exact ⟨E, w, v, Pre.refl E, hr, (VV_den E r v).2 h1, .inl h2⟩
theorem turns_undeep {o : Oper} {r : AV} {us : List U} (ht : Turns P w0 E a w o (denV r) (apU (deepH h) (us.map deepU))) : Turns P w0 E a w o r (apU h us) := by
 obtain ⟨E', w', v, h1, h2, h3, h4⟩ := ht
 refine ⟨E', w', v, h1, Rep.undeep ?_, (VV_den E' r v).2 h3, h4⟩
 rw [apU_deep]
 exact h2
theorem turns_effD {o : Oper} {r : AV} {us : List U} (ha : AR E A n a) (hr : Rep w0 E h w) (hp : evEff P (denF A) (deepH h) o = some (denV r, us.map deepU)) : Turns P w0 E a w o r (apU h us) := turns_undeep (evEff_ok ha.den hr.deep hp)
theorem oneL_ok {A : Fr} {x : Operand} {p : A1} (h : oneL A x = some p) : evA (denF A) x = some (ov p.den) := by
 unfold oneL at h
 split at h
 · rename_i b hb
   cases h
   rw [evA_den, hb]
   rfl
 · cases h
theorem oneLs_ok {A : Fr} : ∀ {l : List Operand} {m : List A1}, allSome (oneL A) l = some m → allSome (evA (denF A)) l = some (m.map fun q => ov q.den)
 | [], m, h => by cases h; rfl
 | x :: l, m, h => by
  unfold allSome at h
  cases h1 : oneL A x with
  | none => simp [h1] at h
  | some p =>
   cases h2 : allSome (oneL A) l with
   | none => simp [h1, h2] at h
   | some r =>
    simp only [h1, h2, Option.some.injEq] at h
    subst h
    unfold allSome
    rw [oneL_ok h1, oneLs_ok h2]
    rfl
theorem optL_ok {A : Fr} {x : Option Operand} {l : Option A1} (h : pureW.optOf' A x = some l) : x.map (evA (denF A)) ≠ some none ∧ (x.map (evA (denF A))).join = l.map fun q => ov q.den := by
 cases x with
 | none => cases h; exact ⟨by simp, rfl⟩
 | some x =>
  have h : (oneL A x).map some = some l := h
  cases ho : oneL A x with
  | none => simp [ho] at h
  | some p =>
   simp only [ho, Option.map_some, Option.some.injEq] at h
   subst h
   have e := oneL_ok ho
   exact ⟨by simp [e], by simp [e]⟩
end
section
variable {D : D2} {K : Kd} {q : Nat → Nat}
theorem den_not_nili (u : Lt) : u.den D q ≠ .nili := by
 cases u with
 | slp k c d l =>
  show (if Nat.min c (l.val D).toNat = (l.val D).toNat then A1.stl k 0 1 (l.val D).toNat 0 else _) ≠ .nili
  split <;> exact fun h => nomatch h
 | _ => exact fun h => nomatch h
theorem wrap_mod (n : Nat) : IntKind.wrap .u8 (n : Int) = ((n % 256 : Nat) : Int) := by
 simp [IntKind.wrap, IntKind.bits, IntKind.signed]
theorem conv_go {P : Program} {s d : TypeId} {k : IntKind} (hs : (P.underlying s).isSome = true) (hd : P.underlying d = some (.int k)) (k0 : IntKind) (n : Int) : evConvP P s d (ov (.i k0 n)) = some (ov (.i k (k.wrap n))) := by
 obtain ⟨sd, hs⟩ := Option.isSome_iff_exists.1 hs
 unfold evConvP
 simp only [hs, hd, ov]
theorem wrap_u64n {n : Nat} (h : n < 4294967296) : IntKind.wrap .u64 (n : Int) = (n : Int) := wrap_u64 ⟨Int.natCast_nonneg n, by omega⟩
theorem cnvL_ok {P : Program} (hK : KdOk K D) (hq : qOk q) {s d : TypeId} {k : IntKind} {u : Lt} {r : A1} (hs : (P.underlying s).isSome = true) (hd : P.underlying d = some (.int k)) (hw : wfL K u = true) (h : cnvL K k u = some r) : evConvP P s d (ov (u.den D q)) = some (ov (dW D q r)) := by
 unfold cnvL at h
 split at h
 · rename_i k0 l
   refine (conv_go hs hd k0 (l.val D)).trans ?_
   split at h
   · rename_i r' hr
     injection h with h
     subst h
     rw [numR_ok (q := q) hK hr]
   · have h1 := (bif1 h).1
     replace h := (bif1 h).2
     simp only [Bool.and_eq_true] at h1
     obtain ⟨⟨hk, h0⟩, _⟩ := h1
     obtain rfl := eqK_ok hk
     have h0 := ge_ok hK h0
     rw [letter_ok (D := D) (q := q) h]
     obtain ⟨x, hx⟩ : ∃ x : Nat, l.val D = x := ⟨(l.val D).toNat, by omega⟩
     show some (ov (A1.i .u8 _)) = some (ov (A1.i .u8 (((l.val D).toNat / 256 ^ 0 % 256 : Nat) : Int)))
     rw [hx, wrap_mod, Nat.pow_zero, Nat.div_one]
     rfl
 · rename_i v j
   have hb : v.val D q / 256 ^ j < 4294967296 := Nat.lt_of_le_of_lt (Nat.div_le_self _ _) (va_lt hK hq hw)
   refine (conv_go hs hd .u32 _).trans ?_
   rcases bif2 h with ⟨hk, h⟩ | ⟨_, h⟩
   · rw [letter_ok (D := D) (q := q) h]
     obtain rfl := eqK_ok hk
     rw [wrap_u64n hb]
     rfl
   · have hk := (bif1 h).1
     replace h := (bif1 h).2
     rw [letter_ok (D := D) (q := q) h]
     obtain rfl := eqK_ok hk
     rw [wrap_mod]
     rfl
 · rename_i v j
   have hk := (bif1 h).1
   replace h := (bif1 h).2
   refine (conv_go hs hd .u64 _).trans ?_
   rw [letter_ok (D := D) (q := q) h]
   obtain rfl := eqK_ok hk
   rw [wrap_mod]
   rfl
 · rename_i v j
   have hk := (bif1 h).1
   replace h := (bif1 h).2
   rw [Bool.and_eq_true] at hk
   have hb : v.val D q / 256 ^ j < 4294967296 := Nat.lt_of_le_of_lt (Nat.div_le_self _ _) (va_lt hK hq hw)
   refine (conv_go hs hd .i64 _).trans ?_
   rw [letter_ok (D := D) (q := q) h]
   obtain rfl := eqK_ok hk.1
   rw [wrap_u64n hb]
   rfl
 · rename_i v j
   have hk := (bif1 h).1
   replace h := (bif1 h).2
   refine (conv_go hs hd .u8 _).trans ?_
   split at h
   · rename_i i
     rcases bif2 h with ⟨h3, h⟩ | ⟨_, h⟩
     · rw [letter_ok (D := D) (q := q) h]
       obtain rfl := Nat.eq_of_beq_eq_true h3
       obtain rfl := eqK_ok hk
       have hb : q i / 256 ^ 3 < 256 := by
        have := hq i
        omega
       show some (ov (A1.i .u64 (IntKind.u64.wrap ((q i / 256 ^ 3 % 256 : Nat) : Int)))) = some (ov (A1.i .u64 ((q i / 256 ^ 3 : Nat) : Int)))
       rw [Nat.mod_eq_of_lt hb, wrap_u64 (by omega)]
     · rw [letter_ok (D := D) (q := q) h]
       obtain rfl := eqK_ok hk
       have hb : q i / 256 ^ j % 256 < 256 := Nat.mod_lt _ (by decide)
       show some (ov (A1.i .u64 (IntKind.u64.wrap ((q i / 256 ^ j % 256 : Nat) : Int)))) = some (ov (A1.i .u64 ((q i / 256 ^ j % 256 : Nat) : Int)))
       rw [wrap_u64 (by omega)]
   · cases h
 · cases h
theorem natL_ok (hK : KdOk K D) {u : Lt} {l : Lin} (h : natL K u = some l) : ∃ n : Nat, l.val D = n ∧ u.den D q = .i .i64 (n : Nat) := by
 unfold natL at h
 split at h
 · rename_i m
   have h1 := (bif1 h).1
   have e := Option.some.inj (bif1 h).2
   have := ge_ok hK h1
   rw [← e]
   refine ⟨(m.val D).toNat, by omega, ?_⟩
   show A1.i .i64 (m.val D) = _
   congr 1
   omega
 · cases h
theorem bndL_ok (hK : KdOk K D) {d : Lin} {x : Option A1} {l : Lin} {d' : Nat} (h : bndL K d x = some l) (hd : d.val D = d') : ∃ n : Nat, l.val D = n ∧ bnd d' (x.map fun p => ov (dW D q p)) = some n := by
 unfold bndL at h
 split at h
 · cases h
   exact ⟨d', hd, rfl⟩
 · rename_i p
   cases hv : view K p with
   | none => simp [hv] at h
   | some u =>
    simp only [hv, Option.bind_some] at h
    obtain ⟨n, h1, h2⟩ := natL_ok (q := q) hK h
    refine ⟨n, h1, ?_⟩
    rw [Option.map_some, (view_ok (D := D) (q := q) hv).1, h2]
    show (some ((n : Nat) : Int)).bind (fun i => if 0 ≤ i then some i.toNat else none) = some n
    simp
theorem and3 {a b c : Bool} (h : (a && b && c) = true) : a = true ∧ b = true ∧ c = true := by
 simp only [Bool.and_eq_true] at h
 exact ⟨h.1.1, h.1.2, h.2⟩
theorem toN {x : Int} (h : 0 ≤ x) : ∃ n : Nat, x = n ∧ x.toNat = n := ⟨x.toNat, by omega, rfl⟩
theorem slcL_s (hK : KdOk K D) {l : List Sym} {lo hi : Option A1} {r : A1} (hw : wfS K l = true) (h : slcL K true (.str l) lo hi = some r) : evSlice Tryz.prog 9 (ov (.s (strB D q l))) (lo.map fun p => ov (dW D q p)) (hi.map fun p => ov (dW D q p)) none = some (ov (dW D q r)) := by
 unfold slcL at h
 simp only at h
 split at h
 · rename_i a b h1 h2
   obtain ⟨a', g1, g2⟩ := bndL_ok (q := q) (d' := 0) hK h1 (val_k D 0)
   obtain ⟨b', g3, g4⟩ := bndL_ok (q := q) hK h2 (lenS_ok (q := q) hK hw)
   cases hs : segS K l a (b.sub a) with
   | none => simp [hs] at h
   | some m =>
    simp only [hs, Option.bind_some] at h
    obtain ⟨o', n', e1, e2, e3, e4, e5⟩ := segS_ok (q := q) hK hw hs
    rw [val_sub] at e2
    unfold evSlice
    simp only [t9, ov] at g2 g4 ⊢
    simp only [g2, g4]
    rw [if_pos (by omega), back_ok (D := D) (q := q) h]
    show some (AV.v (.one (.s _))) = some (AV.v (.one (A1.s (strB D q m))))
    rw [← e4]
    congr 6
    · omega
    · omega
 · cases h
theorem slcL_b (hK : KdOk K D) {u : Lt} {lo hi : Option A1} {r : A1} (hw : wfL K u = true) (h : slcL K false u lo hi = some r) : evSlice Tryz.prog 23 (ov (u.den D q)) (lo.map fun p => ov (dW D q p)) (hi.map fun p => ov (dW D q p)) none = some (ov (dW D q r)) := by
 unfold slcL at h
 split at h
 · rename_i hb; cases hb
 · rename_i k o n j _
   obtain ⟨w1, w2, w3⟩ := and3 hw
   obtain ⟨o', x1, x2⟩ := toN (ge_ok hK w1)
   obtain ⟨n', y1, y2⟩ := toN (ge_ok hK w2)
   obtain ⟨j', z1, z2⟩ := toN (ge_ok hK w3)
   split at h
   · rename_i a b h1 h2
     obtain ⟨a', g1, g2⟩ := bndL_ok (q := q) (d' := 0) hK h1 (val_k D 0)
     obtain ⟨b', g3, g4⟩ := bndL_ok (q := q) hK h2 y1
     show evSlice Tryz.prog 23 (ov (.sl k (o.val D).toNat (n.val D).toNat (.un (j.val D).toNat))) _ _ none = _
     rw [x2, y2, z2]
     unfold evSlice
     simp only [ov] at g2 g4 ⊢
     simp only [t23, s5, g2, g4]
     rcases bif2 h with ⟨hc, h⟩ | ⟨_, h⟩
     · obtain ⟨c1, c2, c3⟩ := and3 hc
       have c1 := ge_ok hK c1
       have c2 := ge_ok hK c2
       have c3 := ge_ok hK c3
       rw [val_sub] at c1 c2 c3
       rw [if_pos (by omega), back_ok (D := D) (q := q) h]
       show some (AV.v (.one (.sl k (o' + a' * 1) (b' - a') (.un (j' + a'))))) = some (AV.v (.one (A1.sl k ((o.add a).val D).toNat ((b.sub a).val D).toNat (.un ((j.add a).val D).toNat))))
       rw [val_add, val_sub, val_add, show (o.val D + a.val D).toNat = o' + a' * 1 by omega, show (b.val D - a.val D).toNat = b' - a' by omega, show (j.val D + a.val D).toNat = j' + a' by omega]
     · have hc := (bif1 h).1
       replace h := (bif1 h).2
       rw [Bool.and_eq_true] at hc
       have c1 := val_z (D := D) hc.1
       have c2 := val_z (D := D) hc.2
       rw [val_sub] at c1 c2
       rw [if_neg (by omega), if_pos (by omega), back_ok (D := D) (q := q) h]
       show some (AV.v (.one (.stl k o' 1 a' j'))) = some (AV.v (.one (A1.stl k (o.val D).toNat 1 (a.val D).toNat (j.val D).toNat)))
       rw [x2, z2, show (a.val D).toNat = a' by omega]
   · cases h
 · rename_i k o n c _
   obtain ⟨w1, w2, w3⟩ := and3 hw
   obtain ⟨o', x1, x2⟩ := toN (ge_ok hK w1)
   obtain ⟨n', y1, y2⟩ := toN (ge_ok hK w2)
   obtain ⟨c', z1, z2⟩ := toN (ge_ok hK w3)
   split at h
   · rename_i a b h1 h2
     obtain ⟨a', g1, g2⟩ := bndL_ok (q := q) (d' := 0) hK h1 (val_k D 0)
     obtain ⟨b', g3, g4⟩ := bndL_ok (q := q) hK h2 y1
     show evSlice Tryz.prog 23 (ov (.sl k (o.val D).toNat (n.val D).toNat (.ex (c.val D).toNat))) _ _ none = _
     rw [x2, y2, z2]
     unfold evSlice
     simp only [ov] at g2 g4 ⊢
     simp only [t23, s5, g2, g4]
     have hc := (bif1 h).1
     replace h := (bif1 h).2
     obtain ⟨c1, c2, c3⟩ := and3 hc
     have c1 := ge_ok hK c1
     have c2 := ge_ok hK c2
     have c3 := ge_ok hK c3
     rw [val_sub] at c1 c2 c3
     rw [if_pos (by omega), back_ok (D := D) (q := q) h]
     show some (AV.v (.one (.sl k (o' + a' * 1) (b' - a') (.ex (c' - a'))))) = some (AV.v (.one (A1.sl k ((o.add a).val D).toNat ((b.sub a).val D).toNat (.ex ((c.sub a).val D).toNat))))
     rw [val_add, val_sub, val_sub, show (o.val D + a.val D).toNat = o' + a' * 1 by omega, show (b.val D - a.val D).toNat = b' - a' by omega, show (c.val D - a.val D).toNat = c' - a' by omega]
   · cases h
 · cases h
theorem ixaL_ok (hK : KdOk K D) {u v : Lt} {r : A1} (hw : wfL K u = true) (h : ixaL K u v = some r) : evIndexAddr Tryz.prog 23 (ov (u.den D q)) (ov (v.den D q)) = some (ov (dW D q r)) := by
 unfold ixaL at h
 split at h
 · rename_i k o n j a ha
   obtain ⟨w1, w2, w3⟩ := and3 hw
   obtain ⟨o', x1, x2⟩ := toN (ge_ok hK w1)
   obtain ⟨n', y1, y2⟩ := toN (ge_ok hK w2)
   obtain ⟨a', g1, g2⟩ := natL_ok (q := q) hK ha
   have hc := (bif1 h).1
   replace h := (bif1 h).2
   have hc := ge_ok hK hc
   rw [val_sub] at hc
   rw [g2]
   show evIndexAddr Tryz.prog 23 (ov (.sl k (o.val D).toNat (n.val D).toNat _)) _ = _
   rw [x2, y2]
   unfold evIndexAddr
   simp only [t23, ov, intOf, s5]
   rw [if_pos (by omega), back_ok (D := D) (q := q) h]
   show some (AV.v (.one (.p k (o' + (a' : Int).toNat * 1)))) = some (AV.v (.one (A1.p k ((o.add a).val D).toNat)))
   rw [val_add, show (o.val D + a.val D).toNat = o' + (a' : Int).toNat * 1 by omega]
 · rename_i k o n j a ha
   obtain ⟨w1, w2, w3⟩ := and3 hw
   obtain ⟨o', x1, x2⟩ := toN (ge_ok hK w1)
   obtain ⟨n', y1, y2⟩ := toN (ge_ok hK w2)
   obtain ⟨a', g1, g2⟩ := natL_ok (q := q) hK ha
   have hc := (bif1 h).1
   replace h := (bif1 h).2
   have hc := ge_ok hK hc
   rw [val_sub] at hc
   rw [g2]
   show evIndexAddr Tryz.prog 23 (ov (.sl k (o.val D).toNat (n.val D).toNat _)) _ = _
   rw [x2, y2]
   unfold evIndexAddr
   simp only [t23, ov, intOf, s5]
   rw [if_pos (by omega), back_ok (D := D) (q := q) h]
   show some (AV.v (.one (.p k (o' + (a' : Int).toNat * 1)))) = some (AV.v (.one (A1.p k ((o.add a).val D).toNat)))
   rw [val_add, show (o.val D + a.val D).toNat = o' + (a' : Int).toNat * 1 by omega]
 · cases h
theorem lenL_ok (hK : KdOk K D) {t : TypeId} {u : Lt} {r : A1} (hw : wfL K u = true) (h : lenL t u = some r) : evLenP Tryz.prog t (ov (u.den D q)) = some (ov (dW D q r)) := by
 unfold lenL at h
 split at h
 · rename_i l
   have ht := (bif1 h).1
   replace h := (bif1 h).2
   rw [back_ok (D := D) (q := q) h, Nat.eq_of_beq_eq_true ht]
   show evLenP Tryz.prog 9 (ov (.s (strB D q l))) = some (ov (A1.i .i64 ((lenS l).val D)))
   rw [lenS_ok (q := q) hK hw]
   unfold evLenP
   simp only [t9, ov]
 · rename_i k o n j
   have ht := (bif1 h).1
   replace h := (bif1 h).2
   obtain ⟨w1, w2, w3⟩ := and3 hw
   obtain ⟨n', y1, y2⟩ := toN (ge_ok hK w2)
   rw [back_ok (D := D) (q := q) h, Nat.eq_of_beq_eq_true ht]
   show evLenP Tryz.prog 23 (ov (.sl k _ (n.val D).toNat _)) = some (ov (A1.i .i64 (n.val D)))
   unfold evLenP
   simp only [t23, ov, lenIn, Option.map_some]
   rw [y2, y1]
   rfl
 · rename_i k o n j
   have ht := (bif1 h).1
   replace h := (bif1 h).2
   obtain ⟨w1, w2, w3⟩ := and3 hw
   obtain ⟨n', y1, y2⟩ := toN (ge_ok hK w2)
   rw [back_ok (D := D) (q := q) h, Nat.eq_of_beq_eq_true ht]
   show evLenP Tryz.prog 23 (ov (.sl k _ (n.val D).toNat _)) = some (ov (A1.i .i64 (n.val D)))
   unfold evLenP
   simp only [t23, ov, lenIn, Option.map_some]
   rw [y2, y1]
   rfl
 · have ht := (bif1 h).1
   have e := Option.some.inj (bif1 h).2
   rw [← e, Nat.eq_of_beq_eq_true ht]
   show evLenP Tryz.prog 23 (ov (.stl ..)) = _
   unfold evLenP
   simp only [t23, ov, lenIn, Option.map_some]
   rfl
 · rename_i k n c d l
   have ht := (bif1 h).1
   replace h := (bif1 h).2
   rw [letter_ok (D := D) (q := q) h, Nat.eq_of_beq_eq_true ht]
   show evLenP Tryz.prog 23 (ov (.sl k 0 (n + (Nat.min d (l.val D).toNat - Nat.min c (l.val D).toNat)) (.un 0))) = some (ov (A1.i .i64 ((n + (Nat.min d (l.val D).toNat - Nat.min c (l.val D).toNat) : Nat) : Int)))
   unfold evLenP
   simp only [t23, ov, lenIn, Option.map_some]
   rfl
 · cases h
theorem mnC_ok (hK : KdOk K D) {u v : Lt} {r : A1} (h : mnC K u v = some r) : foldMM (fun a b => if b < a then b else a) [ov (u.den D q), ov (v.den D q)] = some (ov (dW D q r)) := by
 unfold mnC at h
 split at h
 · rename_i l m
   have h1 := (bif1 h).1
   replace h := (bif1 h).2
   rw [Bool.and_eq_true] at h1
   have h2 := ge_ok hK h1.2
   split at h
   · rename_i c hc
     have h3 := natK_ok (D := D) hc
     replace h := (bif1 h).2
     rw [letter_ok (D := D) (q := q) h]
     show some (ov (A1.i .i64 (if m.val D < l.val D then m.val D else l.val D))) = some (ov (A1.i .i64 ((Nat.min c (m.val D).toNat / 256 ^ 0 : Nat) : Int)))
     rw [Nat.pow_zero, Nat.div_one, h3]
     rcases Nat.lt_or_ge (m.val D).toNat c with hlt | hge
     · rw [if_pos (by omega), show Nat.min c (m.val D).toNat = (m.val D).toNat from Nat.min_eq_right (by omega), Int.toNat_of_nonneg h2]
     · rw [if_neg (by omega), show Nat.min c (m.val D).toNat = c from Nat.min_eq_left hge]
   · cases h
 · cases h
theorem fold2 (f : Int → Int → Int) (k : IntKind) (a b : Int) : foldMM f [ov (.i k a), ov (.i k b)] = some (ov (.i k (f a b))) := rfl
theorem mnL_min (hK : KdOk K D) {u v : Lt} {r : A1} (h : mnL K u v false = some r) : foldMM (fun a b => if b < a then b else a) [ov (u.den D q), ov (v.den D q)] = some (ov (dW D q r)) := by
 unfold mnL at h
 split at h
 · rename_i k l k' m
   have hk := eqK_ok (bif1 h).1
   replace h := (bif1 h).2
   rcases bif2 h with ⟨h1, h⟩ | ⟨_, h⟩
   · have h1 := le_ok hK h1
     rw [val_sub] at h1
     rw [cond_false] at h
     rw [back_ok (D := D) (q := q) h]
     subst hk
     refine (fold2 _ k (l.val D) (m.val D)).trans ?_
     rw [if_neg (by omega)]
     rfl
   · rcases bif2 h with ⟨h1, h⟩ | ⟨_, h⟩
     · have h1 := le_ok hK h1
       rw [val_sub] at h1
       rw [cond_false] at h
       rw [back_ok (D := D) (q := q) h]
       subst hk
       refine (fold2 _ k (l.val D) (m.val D)).trans ?_
       rw [show (if m.val D < l.val D then m.val D else l.val D) = m.val D by split <;> omega]
       rfl
     · rw [cond_false] at h
       exact mnC_ok hK h
 · cases h
theorem mnL_max (hK : KdOk K D) {u v : Lt} {r : A1} (h : mnL K u v true = some r) : foldMM (fun a b => if a < b then b else a) [ov (u.den D q), ov (v.den D q)] = some (ov (dW D q r)) := by
 unfold mnL at h
 split at h
 · rename_i k l k' m
   have hk := eqK_ok (bif1 h).1
   replace h := (bif1 h).2
   rcases bif2 h with ⟨h1, h⟩ | ⟨_, h⟩
   · have h1 := le_ok hK h1
     rw [val_sub] at h1
     rw [cond_true] at h
     rw [back_ok (D := D) (q := q) h]
     subst hk
     refine (fold2 _ k (l.val D) (m.val D)).trans ?_
     rw [show (if l.val D < m.val D then m.val D else l.val D) = m.val D by split <;> omega]
     rfl
   · rcases bif2 h with ⟨h1, h⟩ | ⟨_, h⟩
     · have h1 := le_ok hK h1
       rw [val_sub] at h1
       rw [cond_true] at h
       rw [back_ok (D := D) (q := q) h]
       subst hk
       refine (fold2 _ k (l.val D) (m.val D)).trans ?_
       rw [if_neg (by omega)]
       rfl
     · rw [cond_true] at h
       cases h
 · cases h
end
end Go.Ev
namespace Go.Ev
open Go Go.RowKit Go.Proofs
section
variable {D : D2} {K : Kd} {q : Nat → Nat}
theorem slpL_ok (hK : KdOk K D) {u : Lt} {lo hi : Option A1} {r : A1} (hw : wfL K u = true) (h : slpL K u lo hi = some r) : evSlice Tryz.prog 23 (ov (u.den D q)) (lo.map fun p => ov (dW D q p)) (hi.map fun p => ov (dW D q p)) none = some (ov (dW D q r)) := by
 unfold slpL at h
 split at h
 · rename_i k o n j
   have hz := (bif1 h).1
   replace h := (bif1 h).2
   rw [Bool.and_eq_true] at hz
   split at h
   · rename_i c d h1 h2
     have hc := (bif1 h).1
     replace h := (bif1 h).2
     simp only [Bool.and_eq_true] at hc
     obtain ⟨⟨c1, c2⟩, c3⟩ := hc
     have c1 : c < d := Nat.le_of_ble_eq_true c1
     have c1 := Nat.le_of_lt c1
     have c3 := ge_ok hK c3
     have cut : ∀ (d' : Nat) (x : Option A1) (c : Nat), cutA K n x = some c → bnd d' (x.map fun p => ov (dW D q p)) = some (Nat.min c (n.val D).toNat) := by
      intro d' x c hx
      cases x with
      | none => cases hx
      | some p =>
       have hx : (view K p).bind (cutOf K n) = some c := hx
       cases hv : view K p with
       | none => simp [hv] at hx
       | some v =>
        simp only [hv, Option.bind_some] at hx
        rw [Option.map_some, (view_ok (D := D) (q := q) hv).1, cutOf_ok (q := q) hK c3 hx]
        show (some ((Nat.min c (n.val D).toNat : Nat) : Int)).bind (fun i => if 0 ≤ i then some i.toNat else none) = _
        simp
     have hcm : Nat.min c (n.val D).toNat ≤ Nat.min d (n.val D).toNat := Nat.le_min.2 ⟨Nat.le_trans (Nat.min_le_left _ _) c1, Nat.min_le_right _ _⟩
     have hdm : Nat.min d (n.val D).toNat ≤ (n.val D).toNat := Nat.min_le_right _ _
     rw [letter_ok (D := D) (q := q) h]
     show evSlice Tryz.prog 23 (ov (.sl k (o.val D).toNat (n.val D).toNat (.un (j.val D).toNat))) _ _ none = some (ov (if Nat.min c (n.val D).toNat = (n.val D).toNat then .stl k 0 1 (n.val D).toNat 0 else .sl k (Nat.min c (n.val D).toNat) (Nat.min d (n.val D).toNat - Nat.min c (n.val D).toNat) (.un (Nat.min c (n.val D).toNat))))
     rw [val_z hz.1, val_z hz.2]
     unfold evSlice
     have e1 := cut 0 lo c h1
     have e2 := cut (n.val D).toNat hi d h2
     generalize (n.val D).toNat = m at *
     generalize Nat.min c m = a at *
     generalize Nat.min d m = b at *
     simp only [ov] at e1 e2 ⊢
     simp only [t23, s5, e1, e2]
     by_cases ha : a = m
     · rw [if_neg (by omega), if_pos (by omega), if_pos ha]
       rw [ha]
       rfl
     · rw [if_pos (by omega), if_neg ha]
       congr 4 <;> (show _ = _; first | (simp; done) | omega)
   · cases h
 · cases h
theorem nilL_ok {P : Program} {u : Lt} {k o n : Nat} {c : CapE} {op : BinOp} {t : TypeId} {b r : A1} (hu : u.den D q = .sl k o n c) (ht : P.underlying 23 = some (.slice 5)) (h : nilL op t b = some r) : b = .nils ∧ evBin P op t (ov (u.den D q)) (ov .nils) = some (ov (dW D q r)) := by
 unfold nilL at h
 split at h
 · refine ⟨rfl, ?_⟩
   have h1 := Nat.eq_of_beq_eq_true (bif1 h).1
   replace h := (bif1 h).2
   rw [hu, h1]
   split at h
   · injection h with h
     subst h
     unfold evBin
     simp only [ov, evEq, ht]
     rfl
   · injection h with h
     subst h
     unfold evBin
     simp only [ov, evEq, ht]
     rfl
   · cases h
 · cases h
theorem src_ok {s : Nat} (h : (Nat.beq s 3 || Nat.beq s 5 || Nat.beq s 34 || Nat.beq s 35) = true) : (Tryz.prog.underlying s).isSome = true := by
 simp only [Bool.or_eq_true] at h
 rcases h with ((h | h) | h) | h
 · rw [Nat.eq_of_beq_eq_true h, t3]; rfl
 · rw [Nat.eq_of_beq_eq_true h, t5]; rfl
 · rw [Nat.eq_of_beq_eq_true h, t34]; rfl
 · rw [Nat.eq_of_beq_eq_true h, t35]; rfl
theorem cellS_ok (hK : KdOk K D) {l : List Sym} {o : Lin} {r : A1} (hw : wfS K l = true) (h : cellS K l o = some r) : ∃ n : Nat, o.val D = n ∧ (cellsU (strB D q l))[n]? = some (dW D q r) := by
 unfold cellS at h
 have go : ∀ (a : Sym) (m : List Sym), dropS K l o = some (a :: m) → cellsU (a.bytes D q) = [dW D q r] → ∃ n : Nat, o.val D = n ∧ (cellsU (strB D q l))[n]? = some (dW D q r) := by
  intro a m hd hc
  obtain ⟨n, h1, h2, h3, h4⟩ := dropS_ok (q := q) hK hw hd
  refine ⟨n, h1, ?_⟩
  have : (cellsU (strB D q l)).drop n = cellsU (a.bytes D q ++ strB D q m) := by rw [cellsU_drop, h3]; rfl
  have h5 : (cellsU (strB D q l))[n]? = ((cellsU (strB D q l)).drop n)[0]? := by rw [List.getElem?_drop, Nat.add_zero]
  rw [h5, this, cellsU_app, hc]
  rfl
 split at h
 · rename_i z m hd
   have hz := ge_ok hK (bif1 h).1
   have e := Option.some.inj (bif1 h).2
   obtain ⟨n, h1, h2, h3, h4⟩ := dropS_ok (q := q) hK hw hd
   refine ⟨n, h1, ?_⟩
   obtain ⟨k, hk⟩ : ∃ k, (z.val D).toNat = k + 1 := ⟨(z.val D).toNat - 1, by omega⟩
   have h3 : (strB D q l).drop n = List.replicate (z.val D).toNat 0 ++ strB D q m := h3
   have h5 : (cellsU (strB D q l))[n]? = ((cellsU (strB D q l)).drop n)[0]? := by rw [List.getElem?_drop, Nat.add_zero]
   rw [h5, cellsU_drop, h3, hk, ← e]
   rfl
 · cases h
 · rename_i a m hne1 hne2 hd
   obtain ⟨n, h1, h2, h3, h4⟩ := dropS_ok (q := q) hK hw hd
   exact go a m hd (cellOf_ok h (wfS_cons h4).1 hK)
 · cases h
theorem view_den {x : A1} {u : Lt} (h : view K x = some u) : @A1.den (syW D q) x = u.den D q := (view_ok h).1
set_option maxHeartbeats 1000000 in
set_option maxRecDepth 20000 in
theorem pureW_ok (hK : KdOk K D) (hq : qOk q) {A : Fr} {o : Oper} {r : A1} (h : pureW K A o = some r) : evPure Tryz.prog (@denF (syW D q) A) o = some (@denV (syW D q) (.v (.one r))) := by
 obtain ⟨dst, op, ty, pos, after, guard⟩ := o
 unfold pureW at h
 simp only at h
 split at h
 · rename_i op' t x y yt
   split at h
   · rename_i a b h1 h2
     have e1 := @oneL_ok (syW D q) A x a h1
     have e2 := @oneL_ok (syW D q) A y b h2
     have fin : ∀ (p s : A1), p ≠ .nili → @A1.den (syW D q) a = p → @A1.den (syW D q) b = s → evBin Tryz.prog op' t (ov p) (ov s) = some (ov (dW D q r)) → evPure Tryz.prog (@denF (syW D q) A) ⟨dst, .binOp op' t x y yt, ty, pos, after, guard⟩ = some (@denV (syW D q) (.v (.one r))) := by
      intro p s hp hpa hsb hb
      show ((evA (@denF (syW D q) A) x).bind fun a => (evA (@denF (syW D q) A) y).bind fun b => slowBin Tryz.prog op' t x y a b) = _
      rw [e1, e2, hpa, hsb]
      show slowBin Tryz.prog op' t x y (ov p) (ov s) = some (ov (dW D q r))
      rw [← hb]
      unfold slowBin ov
      split
      · rename_i e3 e4
        injection e3 with e3
        injection e3 with e3
        exact absurd e3 hp
      · rfl
     split at h
     · rename_i u v hu hv
       exact fin _ _ (den_not_nili u) (view_ok (q := q) hu).1 (view_ok (q := q) hv).1 (binL_ok hK hq (view_ok (D := D) (q := q) hu).2 (view_ok (D := D) (q := q) hv).2 h t)
     · rename_i k o n j hu hv
       obtain ⟨e, hb⟩ := nilL_ok (P := Tryz.prog) (u := .sl k o n j) (D := D) (q := q) rfl t23 h
       subst e
       exact fin _ .nils (den_not_nili (.sl k o n j)) (view_ok (q := q) hu).1 rfl hb
     · rename_i k o n j hu hv
       obtain ⟨e, hb⟩ := nilL_ok (P := Tryz.prog) (u := .sle k o n j) (D := D) (q := q) rfl t23 h
       subst e
       exact fin _ .nils (den_not_nili (.sle k o n j)) (view_ok (q := q) hu).1 rfl hb
     · cases h
   · cases h
 · rename_i s d x
   have hs := src_ok (bif1 h).1
   replace h := (bif1 h).2
   have fin : ∀ (k : IntKind), Tryz.prog.underlying d = some (.int k) → ((oneL A x).bind fun a => (view K a).bind fun u => cnvL K k u) = some r → evPure Tryz.prog (@denF (syW D q) A) ⟨dst, .convert s d x, ty, pos, after, guard⟩ = some (@denV (syW D q) (.v (.one r))) := by
    intro k hd h
    cases h1 : oneL A x with
    | none => simp [h1] at h
    | some a =>
     cases hu : view K a with
     | none => simp [h1, hu] at h
     | some u =>
      simp only [h1, hu, Option.bind_some] at h
      have e1 := @oneL_ok (syW D q) A x a h1
      show ((evA (@denF (syW D q) A) x).bind fun a => evConvP Tryz.prog s d a) = _
      rw [e1, view_den (D := D) (q := q) hu]
      exact cnvL_ok hK hq hs hd (view_ok (D := D) (q := q) hu).2 h
   split at h
   · exact fin _ t3 h
   · exact fin _ t5 h
   · exact fin _ t35 h
   · cases h
 · rename_i t x lo hi
   split at h
   · rename_i a l m h1 h2 h3
     have e1 := @oneL_ok (syW D q) A x a h1
     obtain ⟨g1, g2⟩ := @optL_ok (syW D q) A lo l h2
     obtain ⟨g3, g4⟩ := @optL_ok (syW D q) A hi m h3
     have fin : evSlice Tryz.prog t (ov (dW D q a)) (l.map fun p => ov (dW D q p)) (m.map fun p => ov (dW D q p)) none = some (ov (dW D q r)) → evPure Tryz.prog (@denF (syW D q) A) ⟨dst, .slice t x lo hi none, ty, pos, after, guard⟩ = some (@denV (syW D q) (.v (.one r))) := by
      intro h4
      have e2 : evPure Tryz.prog (@denF (syW D q) A) ⟨dst, .slice t x lo hi none, ty, pos, after, guard⟩ = (match evA (@denF (syW D q) A) x, lo.map (evA (@denF (syW D q) A)), hi.map (evA (@denF (syW D q) A)), (none : Option Operand).map (evA (@denF (syW D q) A)) with
       | some v, some none, _, _ | some v, _, some none, _ | some v, _, _, some none => none
       | some v, a, b, c => evSlice Tryz.prog t v a.join b.join c.join
       | none, _, _, _ => none) := rfl
      rw [e2, e1]
      generalize lo.map (evA (@denF (syW D q) A)) = L at g1 g2
      generalize hi.map (evA (@denF (syW D q) A)) = M at g3 g4
      rw [← g2, ← g4] at h4
      rcases L with _ | (_ | L)
      · rcases M with _ | (_ | M)
        · exact h4
        · exact absurd rfl g3
        · exact h4
      · exact absurd rfl g1
      · rcases M with _ | (_ | M)
        · exact h4
        · exact absurd rfl g3
        · exact h4
     split at h
     · cases hu : view K a with
       | none => simp [hu] at h
       | some u =>
        simp only [hu, Option.bind_some] at h
        obtain ⟨v1, v2⟩ := view_ok (D := D) (q := q) hu
        refine fin ?_
        rw [v1]
        have hs : ∃ l, u = .str l := by
         unfold slcL at h
         split at h
         · exact ⟨_, rfl⟩
         · rename_i hb; cases hb
         · rename_i hb; cases hb
         · cases h
        obtain ⟨l', rfl⟩ := hs
        exact slcL_s hK v2 h
     · cases hu : view K a with
       | none => simp [hu] at h
       | some u =>
        simp only [hu, Option.bind_some] at h
        obtain ⟨v1, v2⟩ := view_ok (D := D) (q := q) hu
        refine fin ?_
        rw [v1]
        split at h
        · rename_i r' hr
          injection h with h
          subst h
          exact slcL_b hK v2 hr
        · exact slpL_ok hK v2 h
     · cases h
   · cases h
 · rename_i x i
   split at h
   · rename_i a b h1 h2
     split at h
     · rename_i u v hu hv
       have e1 := @oneL_ok (syW D q) A x a h1
       have e2 := @oneL_ok (syW D q) A i b h2
       show ((evA (@denF (syW D q) A) x).bind fun a => (evA (@denF (syW D q) A) i).bind fun b => evIndexAddr Tryz.prog 23 a b) = _
       rw [e1, e2, view_den (D := D) (q := q) hu, view_den (D := D) (q := q) hv]
       exact ixaL_ok hK (view_ok (D := D) (q := q) hu).2 h
     · cases h
   · cases h
 · rename_i x i
   split at h
   · rename_i a b h1 h2
     split at h
     · rename_i l v hu hv
       have e1 := @oneL_ok (syW D q) A x a h1
       have e2 := @oneL_ok (syW D q) A i b h2
       cases hn : natL K v with
       | none => simp [hn] at h
       | some n =>
        simp only [hn, Option.bind_some] at h
        obtain ⟨n', g1, g2⟩ := natL_ok (q := q) hK hn
        obtain ⟨n2, g3, g4⟩ := cellS_ok (q := q) hK (wf_str (view_ok (D := D) (q := q) hu).2) h
        show ((evA (@denF (syW D q) A) x).bind fun a => (evA (@denF (syW D q) A) i).bind fun b => evIndex Tryz.prog 9 a b) = _
        rw [e1, e2, view_den (D := D) (q := q) hu, view_den (D := D) (q := q) hv, g2]
        show evIndex Tryz.prog 9 (ov (.s (strB D q l))) (ov (.i .i64 (n' : Nat))) = some (ov (dW D q r))
        have : n2 = n' := by omega
        subst this
        unfold evIndex
        simp only [t9, ov, intOf]
        rw [if_pos (Int.natCast_nonneg _), Int.toNat_natCast]
        unfold cellsU at g4
        rw [List.getElem?_map] at g4
        cases hg : (strB D q l)[n2]? with
        | none => simp [hg] at g4
        | some c =>
         simp only [hg, Option.map_some, Option.some.injEq] at g4
         rw [← g4]
         rfl
     · cases h
   · cases h
 · rename_i c
   split at h
   · rename_i x t hc hx ht
     have e1 := @oneLs_ok (syW D q) A _ _ hx
     cases hu : view K x with
     | none => simp [hu] at h
     | some u =>
      simp only [hu, Option.bind_some] at h
      obtain ⟨v1, v2⟩ := view_ok (D := D) (q := q) hu
      simp only [evPure, hc, e1, ht, List.map_cons, List.map_nil]
      rw [view_den (D := D) (q := q) hu]
      exact lenL_ok hK v2 h
   · rename_i x y hc hx
     have e1 := @oneLs_ok (syW D q) A _ _ hx
     split at h
     · rename_i u v hu hv
       simp only [evPure, hc, e1, List.map_cons, List.map_nil]
       rw [view_den (D := D) (q := q) hu, view_den (D := D) (q := q) hv]
       exact mnL_min hK h
     · cases h
   · rename_i x y hc hx
     have e1 := @oneLs_ok (syW D q) A _ _ hx
     split at h
     · rename_i u v hu hv
       simp only [evPure, hc, e1, List.map_cons, List.map_nil]
       rw [view_den (D := D) (q := q) hu, view_den (D := D) (q := q) hv]
       exact mnL_max hK h
     · cases h
   · cases h
 · cases h
end
end Go.Ev
