/- What the printed functions of chapter 7 come to: a key's places, one after the other, as numbers. -/
import Derived.Test.YtefalfheeofhhaaQVx2
import Derived.Test.YtefalfheeofhhaaCrc
import Derived.OpenShut
namespace Go.Proofs.Ytefalfheeofhhaa.BloomFacts
open Go.RowKit Go.Proofs.Ytefalfheeofhhaa.QV Go.Proofs.YtefalfheeofhhaaW.PrintWords Go.Proofs.YtefalfheeofhhaaW.PrintLast Go.Proofs.YtefalfheeofhhaaW.PrintMore
open Crc (fold)

abbrev bs (s : ByteArray) : List Nat := s.data.toList.map UInt8.toNat
theorem bs_length (s : ByteArray) : (bs s).length = s.size := by simp [bs]
theorem wrap_succ (m : Nat) (h : m < 9223372036854775807) : wrap64 ((m : Int) + 1) = ((m + 1 : Nat) : Int) := by
  unfold wrap64; omega
theorem bt_nat (s : ByteArray) (m : Nat) (hm : m < s.size) : ∃ b : Nat, bt s m = b ∧ b < 256 ∧ (bs s).drop m = b :: (bs s).drop (m + 1) := by
  have hm' : m < s.data.toList.length := by rw [Array.length_toList]; exact hm
  refine ⟨(s.data.toList[m]).toNat, ?_, UInt8.toNat_lt _, ?_⟩
  · unfold bt
    rw [dif_pos (by simpa using hm)]
    simp
    rfl
  · rw [List.drop_eq_getElem_cons (by simpa using hm')]; simp

/-! ### Hash -/
theorem foldl0_ok (s : ByteArray) (hn : s.size < 9223372036854775807) (d : Nat) : ∀ (k h m : Nat), h < Crc.M → m + d = s.size → d + 1 ≤ k → sum_fold.l0 k h s (m : Int) = some ((fold h ((bs s).drop m) : Nat) : Int) := by
  induction d with
  | zero =>
    intro k h m hh hm hk
    obtain ⟨k, rfl⟩ : ∃ q, k = q + 1 := ⟨k - 1, by omega⟩
    simp only [sum_fold.l0]
    rw [if_neg (by omega), List.drop_of_length_le (by rw [bs_length]; omega)]
    rfl
  | succ d ih =>
    intro k h m hh hm hk
    obtain ⟨k, rfl⟩ : ∃ q, k = q + 1 := ⟨k - 1, by omega⟩
    obtain ⟨b, hb, hlt, hdr⟩ := bt_nat s m (by omega)
    simp only [sum_fold.l0]
    rw [if_pos (by omega), if_pos (by omega), hb, Crc.hstep_go hh hlt, wrap_succ m (by omega), hdr, Crc.fold_cons]
    exact ih k (Crc.hstep h b) (m + 1) (Crc.hstep_lt _ _) (by omega) (by omega)
theorem fold_ok (s : ByteArray) (hn : s.size < 9223372036854775807) {h k : Nat} (hh : h < Crc.M) (hk : s.size + 1 ≤ k) : sum_fold.f k h s = some (fold h (bs s) : Int) :=
  foldl0_ok s hn s.size k h 0 hh (by omega) hk
def hash (l : List Nat) : Nat := fold 14695981039346656037 l
def second (l : List Nat) : Nat := fold 1099511628211 (0 :: l)
theorem hash_ok (s : ByteArray) (hn : s.size < 9223372036854775807) {k : Nat} (hk : s.size + 1 ≤ k) : sum_Hash.f k s = some (hash (bs s) : Int) := by
  unfold sum_Hash.f
  rw [show (14695981039346656037 : Int) = ((14695981039346656037 : Nat) : Int) from rfl, fold_ok s hn (by decide) hk]
  rfl
theorem second_ok (s : ByteArray) (hn : s.size < 9223372036854775807) {k : Nat} (hk : s.size + 2 ≤ k) : sum_Second.f k s = some (second (bs s) : Int) := by
  unfold sum_Second.f
  rw [show (1099511628211 : Int) = ((1099511628211 : Nat) : Int) from rfl, fold_ok ⟨#[0]⟩ (by decide) (by decide) (by show 1 + 1 ≤ k; omega)]
  simp only [Option.bind_some]
  rw [fold_ok s hn (Crc.fold_lt (by decide)) (by omega)]
  simp only [Option.bind_some]
  rw [← Crc.fold_append]
  rfl

theorem hash_lt (l : List Nat) : hash l < Crc.M := Crc.fold_lt (by decide)
theorem second_lt (l : List Nat) : second l < Crc.M := Crc.fold_lt (by decide)
/-! ### The document's own -/
theorem turn_eq : ∀ (k : Nat) (h : Int) (s : ByteArray) (i : Int), cellaretref1_turn.l0 k h s i = sum_fold.l0 k h s i
  | 0, _, _, _ => rfl
  | k + 1, h, s, i => by simp only [cellaretref1_turn.l0, sum_fold.l0, turn_eq k]
theorem turn_ok (s : ByteArray) (hn : s.size < 9223372036854775807) {h k : Nat} (hh : h < Crc.M) (hk : s.size + 1 ≤ k) : cellaretref1_turn.f k h s = some (Crc.fold h (bs s) : Int) := by
  unfold cellaretref1_turn.f
  rw [turn_eq]
  exact fold_ok s hn hh hk
theorem rhash_ok (s : ByteArray) (hn : s.size < 9223372036854775806) {k : Nat} (hk : s.size + 2 ≤ k) : cellaretref1_Hash.f k s = some (hash (bs s) : Int) := by
  unfold cellaretref1_Hash.f
  rw [show (14695981039346656037 : Int) = ((14695981039346656037 : Nat) : Int) from rfl, turn_ok s (by omega) (by decide) (by omega)]
  rfl
theorem bs_zero (s : ByteArray) : bs ((⟨#[0]⟩ : ByteArray) ++ s) = 0 :: bs s := by
  simp [bs, ByteArray.data_append]
theorem rsecond_ok (s : ByteArray) (hn : s.size < 9223372036854775806) {k : Nat} (hk : s.size + 2 ≤ k) : cellaretref1_Second.f k s = some (second (bs s) : Int) := by
  unfold cellaretref1_Second.f
  have hz : ((⟨#[0]⟩ : ByteArray) ++ s).size = 1 + s.size := by rw [ByteArray.size_append]; rfl
  rw [if_pos (by omega), show (1099511628211 : Int) = ((1099511628211 : Nat) : Int) from rfl, turn_ok _ (by omega) (by decide) (by omega)]
  rw [bs_zero]
  rfl
/-! ### Places -/
theorem or_u64 (a b : Nat) (ha : a < 2 ^ 64) (hb : b < 2 ^ 64) : bits .or .u64 a b = ((a ||| b : Nat) : Int) := by
  have hx : a ||| b < 2 ^ 64 := Nat.or_lt_two_pow ha hb
  simp only [bits, BitVec.ofInt_natCast, BitVec.toNat_or, BitVec.toNat_ofNat]
  rw [show IntKind.u64.bits = 64 from rfl, Nat.mod_eq_of_lt ha, Nat.mod_eq_of_lt hb, Crc.wrap_u64]
  omega
def step (s : ByteArray) : Nat := second (bs s) ||| 1
def base (s : ByteArray) : Nat := hash (bs s)
def place (s : ByteArray) (n i : Nat) : Nat := (base s + i * step s) % Crc.M % n
def places (s : ByteArray) (n t : Nat) : List Nat := (List.range t).map (place s n)
theorem place_lt (s : ByteArray) {n : Nat} (hn : 0 < n) (i : Nat) : place s n i < n := Nat.mod_lt _ hn
theorem or1 (s : ByteArray) : Go.bits .or .u64 (second (bs s) : Int) 1 = (step s : Int) := by
  have h := second_lt (bs s)
  unfold Crc.M at h
  have := or_u64 (second (bs s)) 1 (by omega) (by decide)
  exact this
theorem step_lt (s : ByteArray) : step s < Crc.M := by
  have h := second_lt (bs s)
  unfold Crc.M at h
  have := Nat.or_lt_two_pow (n := 64) (x := second (bs s)) (y := 1) (by omega) (by decide)
  unfold step Crc.M
  omega
theorem wrap_small (n : Nat) (h : n < Crc.M) : IntKind.u64.wrap (n : Int) = (n : Int) := by
  unfold Crc.M at h
  rw [Crc.wrap_u64]; omega
theorem wrap_nat (n : Nat) : IntKind.u64.wrap (n : Int) = ((n % Crc.M : Nat) : Int) := by
  rw [Crc.wrap_u64]; unfold Crc.M; omega
theorem wrap64_small (n : Nat) (h : n < 9223372036854775808) : wrap64 (n : Int) = (n : Int) := by
  unfold wrap64; omega
theorem tmod_nat (a b : Nat) : Int.tmod (a : Int) (b : Int) = ((a % b : Nat) : Int) := by
  rw [Int.ofNat_tmod]
theorem l0_places (s : ByteArray) (set : List Bool) (hs : 1 ≤ set.length) (hs2 : set.length ≤ 65536) (T : Nat) (hT : T ≤ 8) (d : Nat) : ∀ (k m : Nat) (acc : List Int), m + d = T → acc.length = m → d + 1 ≤ k →
    bloom_Filter_places.l0 k acc (((base s + m * step s) % Crc.M : Nat) : Int) (step s : Int) (T : Int) (m : Int) set (T : Int) = some (acc ++ ((List.range' m d).map fun i => (place s set.length i : Int)), (T : Int)) := by
  induction d with
  | zero =>
    intro k m acc hm ha hk
    obtain ⟨k, rfl⟩ : ∃ q, k = q + 1 := ⟨k - 1, by omega⟩
    simp only [bloom_Filter_places.l0]
    rw [if_neg (by omega)]
    simp
  | succ d ih =>
    intro k m acc hm ha hk
    obtain ⟨k, rfl⟩ : ∃ q, k = q + 1 := ⟨k - 1, by omega⟩
    have hw : IntKind.u64.wrap ((set.length : Int)) = (set.length : Int) := wrap_small _ (by unfold Crc.M; omega)
    simp only [bloom_Filter_places.l0]
    rw [if_pos (by omega), hw, if_neg (by omega), if_pos (by omega), tmod_nat, wrap_succ m (by omega)]
    have h1 := place_lt s (n := set.length) (by omega) m
    have h2 : wrap64 (((base s + m * step s) % Crc.M % set.length : Nat) : Int) = (place s set.length m : Int) := by
      rw [wrap64_small _ (by unfold place at h1; omega)]; rfl
    have h3 : IntKind.u64.wrap ((((base s + m * step s) % Crc.M : Nat) : Int) + (step s : Int)) = (((base s + (m + 1) * step s) % Crc.M : Nat) : Int) := by
      rw [← Int.natCast_add, wrap_nat, Nat.mod_add_mod, Nat.add_mul, Nat.one_mul, Nat.add_assoc]
    rw [h2, h3, ih k (m + 1) _ (by omega) (by simp [ha]) (by omega)]
    simp [List.range'_succ]
theorem places_ok (s : ByteArray) (hn : s.size < 9223372036854775807) (set : List Bool) (hs : 1 ≤ set.length) (hs2 : set.length ≤ 65536) (T : Nat) (hT : T ≤ 8) {k : Nat} (hk : s.size + 10 ≤ k) :
    bloom_Filter_places.f k set (T : Int) s = some ((places s set.length T).map Int.ofNat, (T : Int)) := by
  unfold bloom_Filter_places.f
  rw [hash_ok s hn (by omega)]
  rw [Option.bind_some]
  rw [second_ok s hn (by omega)]
  rw [Option.bind_some]
  rw [or1]
  have h0 : ((hash (bs s) : Nat) : Int) = (((base s + 0 * step s) % Crc.M : Nat) : Int) := by
    rw [Nat.zero_mul, Nat.add_zero, Nat.mod_eq_of_lt (show base s < Crc.M from hash_lt _)]; rfl
  rw [h0]
  have := l0_places s set hs hs2 T hT T k 0 [] (by omega) rfl (by omega)
  rw [show ((0 : Nat) : Int) = 0 from rfl] at this
  rw [this]
  simp [places, List.range_eq_range', List.map_map, Function.comp_def]
theorem Bit_ok (s : ByteArray) (hn : s.size < 9223372036854775806) (i n : Nat) (hi : i < Crc.M) (h1 : 1 ≤ n) (h2 : n ≤ 65536) {k : Nat} (hk : s.size + 2 ≤ k) : cellaretref4_Bit.f k s (i : Int) (n : Int) = some (place s n i : Int) := by
  unfold cellaretref4_Bit.f
  rw [rhash_ok s hn hk]
  rw [Option.bind_some]
  rw [rsecond_ok s hn hk]
  rw [Option.bind_some]
  rw [wrap_small n (by unfold Crc.M; omega), if_neg (by omega), or1, wrap_small i hi, ← Int.natCast_mul, wrap_nat, ← Int.natCast_add, wrap_nat, tmod_nat, Nat.add_mod_mod]
  have h3 := place_lt s (n := n) (by omega) i
  show some (wrap64 ((place s n i : Nat) : Int)) = _
  rw [wrap64_small _ (by omega)]
end Go.Proofs.Ytefalfheeofhhaa.BloomFacts
