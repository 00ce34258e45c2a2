/- What the printed functions of chapter 4 come to: sums, numbers in bytes, records. -/
import Derived.Test.YtefalfheeofhhaaQRx5
import Derived.Test.YtefalfheeofhhaaQRx8
import Derived.Test.YtefalfheeofhhaaQRx20
import Derived.Test.YtefalfheeofhhaaCrc
import Derived.OpenShut
namespace Go.Proofs.Ytefalfheeofhhaa.RecFacts
open Go.RowKit Go.Proofs.Ytefalfheeofhhaa.QR Go.Proofs.YtefalfheeofhhaaW.PrintWords Go.Proofs.YtefalfheeofhhaaW.PrintLast Go.Proofs.YtefalfheeofhhaaW.PrintMore
open Crc (crc byteStep bstep bsteps)

abbrev ns (l : List Int) : List Nat := l.map Int.toNat
abbrev bs (s : ByteArray) : List Nat := s.data.toList.map UInt8.toNat
abbrev Wf (l : List Int) : Prop := ∀ x ∈ l, 0 ≤ x ∧ x < 256

theorem wf_of {l : List Int} (h : ∀ x ∈ l, (Lit.int .u8 x).wf = true) : Wf l := fun x hx => by
  have := bounds_u8 (h x hx); omega
theorem ns_lt {l : List Int} (h : Wf l) : ∀ b ∈ ns l, b < 256 := by
  intro b hb
  obtain ⟨x, hx, rfl⟩ := List.mem_map.1 hb
  have := h x hx
  omega
theorem bs_lt (s : ByteArray) : ∀ b ∈ bs s, b < 256 := by
  intro b hb
  obtain ⟨x, _, rfl⟩ := List.mem_map.1 hb
  exact x.toNat_lt
theorem bs_length (s : ByteArray) : (bs s).length = s.size := by simp [bs]
theorem wrap_succ (m : Nat) (h : m < 9223372036854775807) : wrap64 ((m : Int) + 1) = ((m + 1 : Nat) : Int) := by
  unfold wrap64; omega
theorem rd_nat {l : List Int} (h : Wf l) (m : Nat) (hm : m < l.length) : ∃ b : Nat, rd l m = b ∧ b < 256 ∧ (ns l).drop m = b :: (ns l).drop (m + 1) := by
  have hx := h l[m] (List.getElem_mem hm)
  refine ⟨l[m].toNat, ?_, by omega, ?_⟩
  · simp [rd, List.getD_eq_getElem?_getD, hm]; omega
  · rw [List.drop_eq_getElem_cons (by simpa using hm)]; simp
theorem bt_nat (s : ByteArray) (m : Nat) (hm : m < s.size) : ∃ b : Nat, bt s m = b ∧ b < 256 ∧ (bs s).drop m = b :: (bs s).drop (m + 1) := by
  have hm' : m < s.data.toList.length := by rw [Array.length_toList]; exact hm
  refine ⟨(s.data.toList[m]).toNat, ?_, UInt8.toNat_lt _, ?_⟩
  · unfold bt
    rw [dif_pos (by simpa using hm)]
    simp
    rfl
  · rw [List.drop_eq_getElem_cons (by simpa using hm')]; simp

/-! ### More -/
theorem l1_ok (l : List Int) (n i : Int) (d : Nat) : ∀ (k c : Nat), c < 2 ^ 32 → d ≤ 8 → sum_More.l1 (k + d + 1) c l n i ((8 - d : Nat) : Int) = sum_More.l0 k (bsteps d c) l n (wrap64 (i + 1)) := by
  induction d with
  | zero =>
    intro k c _ _
    show sum_More.l1 (k + 1) _ _ _ _ _ = _
    simp only [sum_More.l1]
    rw [if_neg (by simp)]
    rfl
  | succ d ih =>
    intro k c hc hd
    show sum_More.l1 (k + d + 1 + 1) _ _ _ _ _ = _
    simp only [sum_More.l1]
    rw [if_pos (by omega), Crc.and1_u32 c hc]
    have hj : wrap64 (((8 - (d + 1) : Nat) : Int) + 1) = ((8 - d : Nat) : Int) := by unfold wrap64; omega
    have hb := ih k (bstep c) (Crc.bstep_lt hc) (by omega)
    have h2 : (c : Int) / 2 = ((c / 2 : Nat) : Int) := by omega
    have h3 : Go.bits .xor .u32 ((c / 2 : Nat) : Int) 2197175160 = ((c / 2 ^^^ Crc.P : Nat) : Int) := Crc.xor_u32 (c / 2) Crc.P (by omega) (by decide)
    rw [hj, h2, h3]
    by_cases ho : c % 2 = 1
    · rw [if_pos (by omega)]
      have : bstep c = c / 2 ^^^ Crc.P := by unfold bstep; rw [if_pos ho]
      rw [← this]
      exact hb
    · rw [if_neg (by omega)]
      have : bstep c = c / 2 := by unfold bstep; rw [if_neg ho]
      rw [← this]
      exact hb
theorem l0_ok {l : List Int} (hl : Wf l) (hn : l.length < 9223372036854775807) (d : Nat) : ∀ (k c m : Nat), c < 2 ^ 32 → m + d = l.length → 10 * d + 1 ≤ k → sum_More.l0 k c l (l.length : Int) (m : Int) = some ((4294967295 ^^^ crc c ((ns l).drop m) : Nat) : Int) := by
  induction d with
  | zero =>
    intro k c m hc hm hk
    obtain ⟨k, rfl⟩ : ∃ q, k = q + 1 := ⟨k - 1, by omega⟩
    simp only [sum_More.l0]
    rw [if_neg (by omega), List.drop_of_length_le (by simp; omega)]
    rw [show (4294967295 : Int) = ((4294967295 : Nat) : Int) from rfl, Crc.xor_u32 _ _ (by decide) hc]
    rfl
  | succ d ih =>
    intro k c m hc hm hk
    obtain ⟨k, rfl⟩ : ∃ q, k = q + 8 + 1 + 1 := ⟨k - 10, by omega⟩
    obtain ⟨b, hb, hlt, hdr⟩ := rd_nat hl m (by omega)
    simp only [sum_More.l0]
    rw [if_pos (by omega), if_pos (by omega), if_pos (by omega), hb, show (b : Int) % 4294967296 = (b : Int) from by omega, Crc.xor_u32 _ _ hc (by omega)]
    have h1 := l1_ok l (l.length : Int) (m : Int) 8 k (c ^^^ b) (Nat.xor_lt_two_pow hc (by omega)) (Nat.le_refl _)
    rw [show ((8 - 8 : Nat) : Int) = 0 from rfl] at h1
    rw [h1, wrap_succ m (by omega), hdr]
    exact ih k _ (m + 1) (Crc.byteStep_lt hc hlt) (by omega) (by omega)
def more (c : Nat) (l : List Nat) : Nat := 4294967295 ^^^ crc (4294967295 ^^^ c) l
theorem more_lt {c : Nat} {l : List Nat} (hc : c < 2 ^ 32) (hl : ∀ b ∈ l, b < 256) : more c l < 2 ^ 32 :=
  Nat.xor_lt_two_pow (by decide) (Crc.crc_lt (Nat.xor_lt_two_pow (by decide) hc) hl)
theorem more_ok {l : List Int} (hl : Wf l) (hn : l.length < 9223372036854775807) {c k : Nat} (hc : c < 2 ^ 32) (hk : 10 * l.length + 1 ≤ k) : sum_More.f k c l = some (more c (ns l) : Int) := by
  unfold sum_More.f
  rw [show (4294967295 : Int) = ((4294967295 : Nat) : Int) from rfl, Crc.xor_u32 _ _ (by decide) hc]
  exact l0_ok hl hn l.length k _ 0 (Nat.xor_lt_two_pow (by decide) hc) (by omega) hk
theorem crc_ok {l : List Int} (hl : Wf l) (hn : l.length < 9223372036854775807) {k : Nat} (hk : 10 * l.length + 1 ≤ k) : sum_Crc.f k l = some (more 0 (ns l) : Int) := by
  unfold sum_Crc.f
  rw [show (0 : Int) = ((0 : Nat) : Int) from rfl, more_ok hl hn (by decide) hk]
  rfl

theorem bs_append (a b : ByteArray) : bs (a ++ b) = bs a ++ bs b := by simp [bs]
theorem bs_strOfNums {xs : List Int} (h : Wf xs) : bs (strOfNums xs) = ns xs := by
  rw [bs, strOfNums_data, List.map_map]
  apply List.map_congr_left
  intro x hx
  have := h x hx
  simp only [Function.comp_apply, UInt8.toNat_ofNat']
  omega
theorem ns_bytesOf (s : ByteArray) : ns (bytesOf s) = bs s := by
  simp [ns, bs, bytesOf, Function.comp_def]
theorem wf_bytesOf (s : ByteArray) : Wf (bytesOf s) := by
  intro x hx
  obtain ⟨b, _, rfl⟩ := List.mem_map.1 hx
  have := b.toNat_lt
  omega
theorem xor_right (a b c : Nat) : (a ^^^ b) ^^^ (c ^^^ b) = a ^^^ c := by
  rw [Nat.xor_assoc, Nat.xor_comm c b, ← Nat.xor_assoc b, Nat.xor_self, Nat.zero_xor]
theorem bsteps_succ' (j c : Nat) : bsteps (j + 1) c = bstep (bsteps j c) := by
  rw [Crc.bsteps_add]; rfl
theorem shr_u8 (b j : Nat) (hj : j < 8) : shr .u8 (b : Int) (IntKind.u64.wrap (j : Int)) = ((b / 2 ^ j : Nat) : Int) := by
  rw [Crc.wrap_u64, show ((j : Int) % 18446744073709551616) = (j : Int) from by omega]
  unfold shr
  rw [Int.toNat_natCast, Nat.min_eq_left (by simp [IntKind.bits]; omega)]
  simp
theorem and1 (a : Nat) (ha : a < 2 ^ 32) : Go.bits .and .u32 (a : Int) 1 = ((a % 2 : Nat) : Int) := Crc.and1_u32 a ha
/-- The reference's inner loop: what it holds is the program's, exclusive-or what is left of the byte. -/
theorem ref_l1 {l : List Int} (m b c0 : Nat) (hb : rd l m = b) (hm : m < l.length) (hlt : b < 256) (d : Nat) : ∀ (k c j : Nat), j + d = 8 → c < 2 ^ 32 → c ^^^ (b / 2 ^ j) = bsteps j (c0 ^^^ b) →
    cellaretref1_More.l1 (k + d + 1) l c m (j : Int) = cellaretref1_More.l0 k l (bsteps 8 (c0 ^^^ b)) (wrap64 (m + 1)) := by
  induction d with
  | zero =>
    intro k c j hj hc hinv
    obtain rfl : j = 8 := by omega
    show cellaretref1_More.l1 (k + 1) _ _ _ _ = _
    simp only [cellaretref1_More.l1]
    rw [if_neg (by omega)]
    have : b / 2 ^ 8 = 0 := by omega
    rw [this, Nat.xor_zero] at hinv
    rw [hinv]
  | succ d ih =>
    intro k c j hj hc hinv
    show cellaretref1_More.l1 (k + d + 1 + 1) _ _ _ _ = _
    replace ih := ih k
    generalize k + d + 1 = q at ih ⊢
    simp only [cellaretref1_More.l1]
    have hw : IntKind.u64.wrap (j : Int) = (j : Int) := by rw [Crc.wrap_u64]; omega
    have hdl : b / 2 ^ j < 2 ^ 32 := Nat.lt_of_le_of_lt (Nat.div_le_self _ _) (by omega)
    have hx : c ^^^ (b / 2 ^ j) < 2 ^ 32 := Nat.xor_lt_two_pow hc hdl
    rw [if_pos (by omega), if_pos (by omega), if_pos (by omega), if_pos (by rw [hw]; omega), hb, shr_u8 b j (by omega)]
    rw [show (((b / 2 ^ j : Nat) : Int) % 4294967296) = ((b / 2 ^ j : Nat) : Int) from by generalize b / 2 ^ j = q at hdl ⊢; omega, Crc.xor_u32 _ _ hc hdl, and1 _ hx]
    rw [show wrap64 ((j : Int) + 1) = ((j + 1 : Nat) : Int) from by unfold wrap64; omega]
    have h2 : (c : Int) / 2 = ((c / 2 : Nat) : Int) := by omega
    have h3 : Go.bits .xor .u32 ((c / 2 : Nat) : Int) 2197175160 = ((c / 2 ^^^ Crc.P : Nat) : Int) := Crc.xor_u32 (c / 2) Crc.P (by omega) (by decide)
    rw [h2, h3]
    have hdiv : (c ^^^ (b / 2 ^ j)) / 2 = (c / 2) ^^^ (b / 2 ^ (j + 1)) := by rw [Crc.xor_div2, Nat.div_div_eq_div_mul, ← Nat.pow_succ]
    by_cases ho : (c ^^^ (b / 2 ^ j)) % 2 = 1
    · rw [if_pos (by omega)]
      refine ih (c / 2 ^^^ Crc.P) (j + 1) (by omega) (Nat.xor_lt_two_pow (by omega) (by decide)) ?_
      rw [bsteps_succ', ← hinv]
      unfold bstep
      rw [if_pos ho, hdiv, Nat.xor_assoc, Nat.xor_comm Crc.P, ← Nat.xor_assoc]
    · rw [if_neg (by omega)]
      refine ih (c / 2) (j + 1) (by omega) (by omega) ?_
      rw [bsteps_succ', ← hinv]
      unfold bstep
      rw [if_neg ho, hdiv]
theorem ref_l0 {l : List Int} (hl : Wf l) (hn : l.length < 9223372036854775807) (d : Nat) : ∀ (k c m : Nat), c < 2 ^ 32 → m + d = l.length → 10 * d + 1 ≤ k → cellaretref1_More.l0 k l c (m : Int) = some ((4294967295 ^^^ Crc.crc c ((ns l).drop m) : Nat) : Int) := by
  induction d with
  | zero =>
    intro k c m hc hm hk
    obtain ⟨k, rfl⟩ : ∃ q, k = q + 1 := ⟨k - 1, by omega⟩
    simp only [cellaretref1_More.l0]
    rw [if_neg (by omega), List.drop_of_length_le (by simp; omega)]
    rw [show (4294967295 : Int) = ((4294967295 : Nat) : Int) from rfl, Crc.xor_u32 _ _ hc (by decide), Nat.xor_comm]
    rfl
  | succ d ih =>
    intro k c m hc hm hk
    obtain ⟨k, rfl⟩ : ∃ q, k = q + 8 + 1 + 1 := ⟨k - 10, by omega⟩
    obtain ⟨b, hb, hlt, hdr⟩ := rd_nat hl m (by omega)
    simp only [cellaretref1_More.l0]
    rw [if_pos (by omega)]
    have h1 := ref_l1 (l := l) m b c hb (by omega) hlt 8 k c 0 rfl hc (by simp [bsteps])
    rw [show ((0 : Nat) : Int) = 0 from rfl] at h1
    rw [h1, wrap_succ m (by omega), hdr]
    exact ih k _ (m + 1) (Crc.byteStep_lt hc hlt) (by omega) (by omega)
theorem refmore_ok {l : List Int} (hl : Wf l) (hn : l.length < 9223372036854775807) {c k : Nat} (hc : c < 2 ^ 32) (hk : 10 * l.length + 1 ≤ k) : cellaretref1_More.f k c l = some (more c (ns l) : Int) := by
  unfold cellaretref1_More.f more
  rw [show (4294967295 : Int) = ((4294967295 : Nat) : Int) from rfl, Crc.xor_u32 _ _ hc (by decide), Nat.xor_comm c]
  exact ref_l0 hl hn l.length k _ 0 (Nat.xor_lt_two_pow (by decide) hc) (by omega) hk

theorem refcrc_ok (s : ByteArray) (hn : s.size < 9223372036854775807) {k : Nat} (hk : 10 * s.size + 1 ≤ k) : cellaretref4_crc.f k s = some (more 0 (bs s) : Int) := by
  unfold cellaretref4_crc.f cellaretref1_Crc.f
  have hl : (bytesOf s).length = s.size := bytesOf_length s
  rw [if_pos (by omega), show (0 : Int) = ((0 : Nat) : Int) from rfl, refmore_ok (wf_bytesOf s) (by omega) (by decide) (by omega)]
  simp only [Option.bind_some]
  rw [ns_bytesOf]
  have := more_lt (c := 0) (by decide) (bs_lt s)
  rw [Crc.wrap_u64]
  congr 1
  omega

/-! ### Numbers in bytes -/
def num (l : List Nat) : Nat := l.foldr (fun b v => v * 256 + b) 0
theorem num_nil : num [] = 0 := rfl
theorem num_cons (b : Nat) (l : List Nat) : num (b :: l) = num l * 256 + b := rfl
theorem num_lt {l : List Nat} (h : ∀ b ∈ l, b < 256) : num l < 256 ^ l.length := by
  induction l with
  | nil => simp [num]
  | cons b l ih =>
    have h1 := ih (fun x hx => h x (by simp [hx]))
    have h2 := h b (by simp)
    rw [num_cons, List.length_cons, Nat.pow_succ]
    have : num l * 256 + b < (num l + 1) * 256 := by omega
    exact Nat.lt_of_lt_of_le this (Nat.mul_le_mul_right _ h1)
def low (v : Nat) : Nat → List Nat
  | 0 => []
  | n + 1 => v % 256 :: low (v / 256) n
theorem low_length (v n : Nat) : (low v n).length = n := by
  induction n generalizing v with
  | zero => rfl
  | succ n ih => simp [low, ih]
theorem low_lt (v n : Nat) : ∀ b ∈ low v n, b < 256 := by
  induction n generalizing v with
  | zero => simp [low]
  | succ n ih =>
    intro b hb
    rcases List.mem_cons.1 hb with rfl | hb
    · omega
    · exact ih _ b hb
theorem num_low (v n : Nat) : num (low v n) = v % 256 ^ n := by
  induction n generalizing v with
  | zero => simp [low, num, Nat.mod_one]
  | succ n ih =>
    rw [low, num_cons, ih, Nat.pow_succ, Nat.mul_comm (256 ^ n), Nat.mod_mul]
    omega
theorem low_num {l : List Nat} (h : ∀ b ∈ l, b < 256) : low (num l) l.length = l := by
  induction l with
  | nil => rfl
  | cons b l ih =>
    have h2 := h b (by simp)
    rw [num_cons, List.length_cons, low, show (num l * 256 + b) % 256 = b from by omega, show (num l * 256 + b) / 256 = num l from by omega, ih (fun x hx => h x (by simp [hx]))]
theorem low_snoc (v n : Nat) : low v (n + 1) = low v n ++ [v / 256 ^ n % 256] := by
  induction n generalizing v with
  | zero => simp [low]
  | succ n ih =>
    rw [low, ih (v / 256), low, List.cons_append, Nat.div_div_eq_div_mul, Nat.pow_succ, Nat.mul_comm 256]
theorem or_u64 (a b : Nat) (ha : a * 256 < 2 ^ 64) (hb : b < 256) : Go.bits .or .u64 ((a * 256 : Nat) : Int) (b : Int) = ((a * 256 + b : Nat) : Int) := by
  have ho : a * 256 ||| b = a * 256 + b := by
    have := Nat.two_pow_add_eq_or_of_lt (i := 8) hb a
    rw [Nat.mul_comm a]
    exact this.symm
  simp only [bits, BitVec.ofInt_natCast, BitVec.toNat_or, BitVec.toNat_ofNat]
  rw [show IntKind.u64.bits = 64 from rfl, Nat.mod_eq_of_lt ha, Nat.mod_eq_of_lt (by omega), ho, Crc.wrap_u64]
  omega

/-! ### number -/
theorem number_l0 {l : List Int} (hl : Wf l) (hn : l.length ≤ 8) (m : Nat) : ∀ (k : Nat), m ≤ l.length → m + 1 ≤ k → rec_number.l0 k l (num ((ns l).drop m) : Int) ((m : Int) - 1) = some (num (ns l) : Int) := by
  induction m with
  | zero =>
    intro k _ hk
    obtain ⟨k, rfl⟩ : ∃ q, k = q + 1 := ⟨k - 1, by omega⟩
    simp only [rec_number.l0]
    rw [if_neg (by omega)]
    simp
  | succ m ih =>
    intro k hm hk
    obtain ⟨k, rfl⟩ : ∃ q, k = q + 1 := ⟨k - 1, by omega⟩
    simp only [rec_number.l0]
    have hr : ((m + 1 : Nat) : Int) - 1 = (m : Int) := by omega
    rw [hr, if_pos (by omega), if_pos (by omega), if_pos (by omega)]
    obtain ⟨b, hb, hlt, hdr⟩ := rd_nat hl m (by omega)
    have hsm : num ((ns l).drop (m + 1)) < 256 ^ 7 := by
      have h1 := num_lt (l := (ns l).drop (m + 1)) (fun x hx => ns_lt hl x (List.mem_of_mem_drop hx))
      refine Nat.lt_of_lt_of_le h1 (Nat.pow_le_pow_right (by decide) ?_)
      simp
      omega
    have hv : num ((ns l).drop (m + 1)) * 256 < 2 ^ 64 := by
      have : (256 : Nat) ^ 7 = 72057594037927936 := by decide
      omega
    rw [hb, show IntKind.u64.wrap (b : Int) = (b : Int) from by rw [Crc.wrap_u64]; omega]
    rw [show IntKind.u64.wrap ((num ((ns l).drop (m + 1)) : Int) * 256) = ((num ((ns l).drop (m + 1)) * 256 : Nat) : Int) from by rw [Crc.wrap_u64]; omega]
    rw [or_u64 _ _ hv hlt, show wrap64 ((m : Int) - 1) = (m : Int) - 1 from by unfold wrap64; omega]
    have := ih k (by omega) (by omega)
    rw [hdr, num_cons] at this
    exact this
theorem number_ok {l : List Int} (hl : Wf l) (hn : l.length ≤ 8) {k : Nat} (hk : 9 ≤ k) : rec_number.f k l = some (num (ns l) : Int) := by
  unfold rec_number.f
  have h := number_l0 hl hn l.length k (Nat.le_refl _) (by omega)
  rw [List.drop_of_length_le (by simp)] at h
  rw [show wrap64 ((l.length : Int) - 1) = (l.length : Int) - 1 from by unfold wrap64; omega]
  exact h
/-! ### add -/
def ints (l : List Nat) : List Int := l.map (fun b : Nat => (b : Int))
theorem ns_ints (l : List Nat) : ns (ints l) = l := by simp [ns, ints, Function.comp_def]
theorem wf_ints {l : List Nat} (h : ∀ b ∈ l, b < 256) : Wf (ints l) := by
  intro x hx
  obtain ⟨b, hb, rfl⟩ := List.mem_map.1 hx
  have := h b hb
  omega
theorem ints_ns {l : List Int} (h : Wf l) : ints (ns l) = l := by
  unfold ints ns
  rw [List.map_map]
  conv => rhs; rw [← List.map_id l]
  apply List.map_congr_left
  intro x hx
  have := h x hx
  simp
  omega
theorem shr_u64 (v j : Nat) (hj : j < 8) : shr .u64 (v : Int) ((8 * j : Nat) : Int) % 256 = ((v / 256 ^ j % 256 : Nat) : Int) := by
  unfold shr
  rw [Int.toNat_natCast, Nat.min_eq_left (by simp [IntKind.bits]; omega), Int.pow_mul, show (2 : Int) ^ 8 = 256 from rfl]
  simp
theorem add_l0 (l : List Int) (v n : Nat) (hn : n ≤ 8) (hl : l.length ≤ 1000) (d : Nat) : ∀ (k m : Nat), m + d = n → d + 1 ≤ k → rec_add.l0 k (l ++ ints (low v m)) (v : Int) (n : Int) (m : Int) = some (l ++ ints (low v n)) := by
  induction d with
  | zero =>
    intro k m hm hk
    obtain ⟨k, rfl⟩ : ∃ q, k = q + 1 := ⟨k - 1, by omega⟩
    obtain rfl : m = n := by omega
    simp only [rec_add.l0]
    rw [if_neg (by omega)]
  | succ d ih =>
    intro k m hm hk
    obtain ⟨k, rfl⟩ : ∃ q, k = q + 1 := ⟨k - 1, by omega⟩
    simp only [rec_add.l0]
    have h8 : wrap64 (8 * (m : Int)) = ((8 * m : Nat) : Int) := by unfold wrap64; omega
    rw [if_pos (by omega), h8, if_pos (by omega), if_pos (by simp [ints, low_length]; omega), shr_u64 v m (by omega), wrap_succ m (by omega)]
    have := ih k (m + 1) (by omega) (by omega)
    rw [low_snoc] at this
    simpa [ints, List.append_assoc] using this
theorem add_ok (l : List Int) {v n k : Nat} (hn : n ≤ 8) (hl : l.length ≤ 1000) (hk : 9 ≤ k) : rec_add.f k l (v : Int) (n : Int) = some (l ++ ints (low v n)) := by
  unfold rec_add.f
  have := add_l0 l v n hn hl n k 0 (by omega) (by omega)
  simpa [low, ints] using this
end Go.Proofs.Ytefalfheeofhhaa.RecFacts
