/- What the printed functions of chapter 1 come to: the sums of CrcLaws, in so many rounds. -/
import Derived.Test.YtefalfheeofhhaaQSx2
import Derived.Test.YtefalfheeofhhaaCrc
import Derived.OpenShut
namespace Go.Proofs.Ytefalfheeofhhaa.SumFacts
open Go.RowKit Go.Proofs.Ytefalfheeofhhaa.QS Go.Proofs.YtefalfheeofhhaaW.PrintWords Go.Proofs.YtefalfheeofhhaaW.PrintLast Go.Proofs.YtefalfheeofhhaaW.PrintMore
open Crc (crc byteStep bstep bsteps fold)

abbrev ns (l : List Int) : List Nat := l.map Int.toNat
abbrev bs (s : ByteArray) : List Nat := s.data.toList.map UInt8.toNat
abbrev Wf (l : List Int) : Prop := ∀ x ∈ l, 0 ≤ x ∧ x < 256

theorem wf_of {l : List Int} (h : ∀ x ∈ l, (Lit.int .u8 x).wf = true) : Wf l := fun x hx => by
  have := bounds_u8 (h x hx); omega
theorem ns_lt {l : List Int} (h : Wf l) : ∀ b ∈ ns l, b < 256 := by
  intro b hb
  obtain ⟨x, hx, rfl⟩ := List.mem_map.1 hb
  have := h x hx
  omega
theorem bs_lt (s : ByteArray) : ∀ b ∈ bs s, b < 256 := by
  intro b hb
  obtain ⟨x, _, rfl⟩ := List.mem_map.1 hb
  exact x.toNat_lt
theorem bs_length (s : ByteArray) : (bs s).length = s.size := by simp [bs]
theorem wrap_succ (m : Nat) (h : m < 9223372036854775807) : wrap64 ((m : Int) + 1) = ((m + 1 : Nat) : Int) := by
  unfold wrap64; omega
theorem rd_nat {l : List Int} (h : Wf l) (m : Nat) (hm : m < l.length) : ∃ b : Nat, rd l m = b ∧ b < 256 ∧ (ns l).drop m = b :: (ns l).drop (m + 1) := by
  have hx := h l[m] (List.getElem_mem hm)
  refine ⟨l[m].toNat, ?_, by omega, ?_⟩
  · simp [rd, List.getD_eq_getElem?_getD, hm]; omega
  · rw [List.drop_eq_getElem_cons (by simpa using hm)]; simp
theorem bt_nat (s : ByteArray) (m : Nat) (hm : m < s.size) : ∃ b : Nat, bt s m = b ∧ b < 256 ∧ (bs s).drop m = b :: (bs s).drop (m + 1) := by
  have hm' : m < s.data.toList.length := by rw [Array.length_toList]; exact hm
  refine ⟨(s.data.toList[m]).toNat, ?_, UInt8.toNat_lt _, ?_⟩
  · unfold bt
    rw [dif_pos (by simpa using hm)]
    simp
    rfl
  · rw [List.drop_eq_getElem_cons (by simpa using hm')]; simp

/-! ### More -/
theorem l1_ok (l : List Int) (n i : Int) (d : Nat) : ∀ (k c : Nat), c < 2 ^ 32 → d ≤ 8 → sum_More.l1 (k + d + 1) c l n i ((8 - d : Nat) : Int) = sum_More.l0 k (bsteps d c) l n (wrap64 (i + 1)) := by
  induction d with
  | zero =>
    intro k c _ _
    show sum_More.l1 (k + 1) _ _ _ _ _ = _
    simp only [sum_More.l1]
    rw [if_neg (by simp)]
    rfl
  | succ d ih =>
    intro k c hc hd
    show sum_More.l1 (k + d + 1 + 1) _ _ _ _ _ = _
    simp only [sum_More.l1]
    rw [if_pos (by omega), Crc.and1_u32 c hc]
    have hj : wrap64 (((8 - (d + 1) : Nat) : Int) + 1) = ((8 - d : Nat) : Int) := by unfold wrap64; omega
    have hb := ih k (bstep c) (Crc.bstep_lt hc) (by omega)
    have h2 : (c : Int) / 2 = ((c / 2 : Nat) : Int) := by omega
    have h3 : Go.bits .xor .u32 ((c / 2 : Nat) : Int) 2197175160 = ((c / 2 ^^^ Crc.P : Nat) : Int) := Crc.xor_u32 (c / 2) Crc.P (by omega) (by decide)
    rw [hj, h2, h3]
    by_cases ho : c % 2 = 1
    · rw [if_pos (by omega)]
      have : bstep c = c / 2 ^^^ Crc.P := by unfold bstep; rw [if_pos ho]
      rw [← this]
      exact hb
    · rw [if_neg (by omega)]
      have : bstep c = c / 2 := by unfold bstep; rw [if_neg ho]
      rw [← this]
      exact hb
theorem l0_ok {l : List Int} (hl : Wf l) (hn : l.length < 9223372036854775807) (d : Nat) : ∀ (k c m : Nat), c < 2 ^ 32 → m + d = l.length → 10 * d + 1 ≤ k → sum_More.l0 k c l (l.length : Int) (m : Int) = some ((4294967295 ^^^ crc c ((ns l).drop m) : Nat) : Int) := by
  induction d with
  | zero =>
    intro k c m hc hm hk
    obtain ⟨k, rfl⟩ : ∃ q, k = q + 1 := ⟨k - 1, by omega⟩
    simp only [sum_More.l0]
    rw [if_neg (by omega), List.drop_of_length_le (by simp; omega)]
    rw [show (4294967295 : Int) = ((4294967295 : Nat) : Int) from rfl, Crc.xor_u32 _ _ (by decide) hc]
    rfl
  | succ d ih =>
    intro k c m hc hm hk
    obtain ⟨k, rfl⟩ : ∃ q, k = q + 8 + 1 + 1 := ⟨k - 10, by omega⟩
    obtain ⟨b, hb, hlt, hdr⟩ := rd_nat hl m (by omega)
    simp only [sum_More.l0]
    rw [if_pos (by omega), if_pos (by omega), if_pos (by omega), hb, show (b : Int) % 4294967296 = (b : Int) from by omega, Crc.xor_u32 _ _ hc (by omega)]
    have h1 := l1_ok l (l.length : Int) (m : Int) 8 k (c ^^^ b) (Nat.xor_lt_two_pow hc (by omega)) (Nat.le_refl _)
    rw [show ((8 - 8 : Nat) : Int) = 0 from rfl] at h1
    rw [h1, wrap_succ m (by omega), hdr]
    exact ih k _ (m + 1) (Crc.byteStep_lt hc hlt) (by omega) (by omega)
def more (c : Nat) (l : List Nat) : Nat := 4294967295 ^^^ crc (4294967295 ^^^ c) l
theorem more_lt {c : Nat} {l : List Nat} (hc : c < 2 ^ 32) (hl : ∀ b ∈ l, b < 256) : more c l < 2 ^ 32 :=
  Nat.xor_lt_two_pow (by decide) (Crc.crc_lt (Nat.xor_lt_two_pow (by decide) hc) hl)
theorem more_ok {l : List Int} (hl : Wf l) (hn : l.length < 9223372036854775807) {c k : Nat} (hc : c < 2 ^ 32) (hk : 10 * l.length + 1 ≤ k) : sum_More.f k c l = some (more c (ns l) : Int) := by
  unfold sum_More.f
  rw [show (4294967295 : Int) = ((4294967295 : Nat) : Int) from rfl, Crc.xor_u32 _ _ (by decide) hc]
  exact l0_ok hl hn l.length k _ 0 (Nat.xor_lt_two_pow (by decide) hc) (by omega) hk
theorem crc_ok {l : List Int} (hl : Wf l) (hn : l.length < 9223372036854775807) {k : Nat} (hk : 10 * l.length + 1 ≤ k) : sum_Crc.f k l = some (more 0 (ns l) : Int) := by
  unfold sum_Crc.f
  rw [show (0 : Int) = ((0 : Nat) : Int) from rfl, more_ok hl hn (by decide) hk]
  rfl

/-! ### Hash -/
theorem foldl0_ok (s : ByteArray) (hn : s.size < 9223372036854775807) (d : Nat) : ∀ (k h m : Nat), h < Crc.M → m + d = s.size → d + 1 ≤ k → sum_fold.l0 k h s (m : Int) = some ((fold h ((bs s).drop m) : Nat) : Int) := by
  induction d with
  | zero =>
    intro k h m hh hm hk
    obtain ⟨k, rfl⟩ : ∃ q, k = q + 1 := ⟨k - 1, by omega⟩
    simp only [sum_fold.l0]
    rw [if_neg (by omega), List.drop_of_length_le (by rw [bs_length]; omega)]
    rfl
  | succ d ih =>
    intro k h m hh hm hk
    obtain ⟨k, rfl⟩ : ∃ q, k = q + 1 := ⟨k - 1, by omega⟩
    obtain ⟨b, hb, hlt, hdr⟩ := bt_nat s m (by omega)
    simp only [sum_fold.l0]
    rw [if_pos (by omega), if_pos (by omega), hb, Crc.hstep_go hh hlt, wrap_succ m (by omega), hdr, Crc.fold_cons]
    exact ih k (Crc.hstep h b) (m + 1) (Crc.hstep_lt _ _) (by omega) (by omega)
theorem fold_ok (s : ByteArray) (hn : s.size < 9223372036854775807) {h k : Nat} (hh : h < Crc.M) (hk : s.size + 1 ≤ k) : sum_fold.f k h s = some (fold h (bs s) : Int) :=
  foldl0_ok s hn s.size k h 0 hh (by omega) hk
def hash (l : List Nat) : Nat := fold 14695981039346656037 l
def second (l : List Nat) : Nat := fold 1099511628211 (0 :: l)
theorem hash_ok (s : ByteArray) (hn : s.size < 9223372036854775807) {k : Nat} (hk : s.size + 1 ≤ k) : sum_Hash.f k s = some (hash (bs s) : Int) := by
  unfold sum_Hash.f
  rw [show (14695981039346656037 : Int) = ((14695981039346656037 : Nat) : Int) from rfl, fold_ok s hn (by decide) hk]
  rfl
theorem second_ok (s : ByteArray) (hn : s.size < 9223372036854775807) {k : Nat} (hk : s.size + 2 ≤ k) : sum_Second.f k s = some (second (bs s) : Int) := by
  unfold sum_Second.f
  rw [show (1099511628211 : Int) = ((1099511628211 : Nat) : Int) from rfl, fold_ok ⟨#[0]⟩ (by decide) (by decide) (by show 1 + 1 ≤ k; omega)]
  simp only [Option.bind_some]
  rw [fold_ok s hn (Crc.fold_lt (by decide)) (by omega)]
  simp only [Option.bind_some]
  rw [← Crc.fold_append]
  rfl
end Go.Proofs.Ytefalfheeofhhaa.SumFacts
