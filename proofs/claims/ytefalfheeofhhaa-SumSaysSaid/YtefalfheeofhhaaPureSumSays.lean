/- The law SumSays on numbers and lists: the program's sums and hashes are the document's, reckoned bit by bit. -/
import Derived.Test.YtefalfheeofhhaaQSFacts
namespace Go.Proofs.Ytefalfheeofhhaa.Pure
open Go.RowKit Go.Proofs.Ytefalfheeofhhaa.QS Go.Proofs.YtefalfheeofhhaaW.PrintWords Go.Proofs.YtefalfheeofhhaaW.PrintLast Go.Proofs.YtefalfheeofhhaaW.PrintMore
open SumFacts
open Crc (bstep bsteps)
namespace SumSaysParts
theorem xor_right (a b c : Nat) : (a ^^^ b) ^^^ (c ^^^ b) = a ^^^ c := by
  rw [Nat.xor_assoc, Nat.xor_comm c b, ← Nat.xor_assoc b, Nat.xor_self, Nat.zero_xor]
theorem bsteps_succ' (j c : Nat) : bsteps (j + 1) c = bstep (bsteps j c) := by
  rw [Crc.bsteps_add]; rfl
theorem shr_u8 (b j : Nat) (hj : j < 8) : shr .u8 (b : Int) (IntKind.u64.wrap (j : Int)) = ((b / 2 ^ j : Nat) : Int) := by
  rw [Crc.wrap_u64, show ((j : Int) % 18446744073709551616) = (j : Int) from by omega]
  unfold shr
  rw [Int.toNat_natCast, Nat.min_eq_left (by simp [IntKind.bits]; omega)]
  simp
theorem and1 (a : Nat) (ha : a < 2 ^ 32) : Go.bits .and .u32 (a : Int) 1 = ((a % 2 : Nat) : Int) := Crc.and1_u32 a ha
/-- The reference's inner loop: what it holds is the program's, exclusive-or what is left of the byte. -/
theorem ref_l1 {l : List Int} (m b c0 : Nat) (hb : rd l m = b) (hm : m < l.length) (hlt : b < 256) (d : Nat) : ∀ (k c j : Nat), j + d = 8 → c < 2 ^ 32 → c ^^^ (b / 2 ^ j) = bsteps j (c0 ^^^ b) →
    cellaretref1_More.l1 (k + d + 1) l c m (j : Int) = cellaretref1_More.l0 k l (bsteps 8 (c0 ^^^ b)) (wrap64 (m + 1)) := by
  induction d with
  | zero =>
    intro k c j hj hc hinv
    obtain rfl : j = 8 := by omega
    show cellaretref1_More.l1 (k + 1) _ _ _ _ = _
    simp only [cellaretref1_More.l1]
    rw [if_neg (by omega)]
    have : b / 2 ^ 8 = 0 := by omega
    rw [this, Nat.xor_zero] at hinv
    rw [hinv]
  | succ d ih =>
    intro k c j hj hc hinv
    show cellaretref1_More.l1 (k + d + 1 + 1) _ _ _ _ = _
    replace ih := ih k
    generalize k + d + 1 = q at ih ⊢
    simp only [cellaretref1_More.l1]
    have hw : IntKind.u64.wrap (j : Int) = (j : Int) := by rw [Crc.wrap_u64]; omega
    have hdl : b / 2 ^ j < 2 ^ 32 := Nat.lt_of_le_of_lt (Nat.div_le_self _ _) (by omega)
    have hx : c ^^^ (b / 2 ^ j) < 2 ^ 32 := Nat.xor_lt_two_pow hc hdl
    rw [if_pos (by omega), if_pos (by omega), if_pos (by omega), if_pos (by rw [hw]; omega), hb, shr_u8 b j (by omega)]
    rw [show (((b / 2 ^ j : Nat) : Int) % 4294967296) = ((b / 2 ^ j : Nat) : Int) from by generalize b / 2 ^ j = q at hdl ⊢; omega, Crc.xor_u32 _ _ hc hdl, and1 _ hx]
    rw [show wrap64 ((j : Int) + 1) = ((j + 1 : Nat) : Int) from by unfold wrap64; omega]
    have h2 : (c : Int) / 2 = ((c / 2 : Nat) : Int) := by omega
    have h3 : Go.bits .xor .u32 ((c / 2 : Nat) : Int) 2197175160 = ((c / 2 ^^^ Crc.P : Nat) : Int) := Crc.xor_u32 (c / 2) Crc.P (by omega) (by decide)
    rw [h2, h3]
    have hdiv : (c ^^^ (b / 2 ^ j)) / 2 = (c / 2) ^^^ (b / 2 ^ (j + 1)) := by rw [Crc.xor_div2, Nat.div_div_eq_div_mul, ← Nat.pow_succ]
    by_cases ho : (c ^^^ (b / 2 ^ j)) % 2 = 1
    · rw [if_pos (by omega)]
      refine ih (c / 2 ^^^ Crc.P) (j + 1) (by omega) (Nat.xor_lt_two_pow (by omega) (by decide)) ?_
      rw [bsteps_succ', ← hinv]
      unfold bstep
      rw [if_pos ho, hdiv, Nat.xor_assoc, Nat.xor_comm Crc.P, ← Nat.xor_assoc]
    · rw [if_neg (by omega)]
      refine ih (c / 2) (j + 1) (by omega) (by omega) ?_
      rw [bsteps_succ', ← hinv]
      unfold bstep
      rw [if_neg ho, hdiv]
theorem ref_l0 {l : List Int} (hl : Wf l) (hn : l.length < 9223372036854775807) (d : Nat) : ∀ (k c m : Nat), c < 2 ^ 32 → m + d = l.length → 10 * d + 1 ≤ k → cellaretref1_More.l0 k l c (m : Int) = some ((4294967295 ^^^ Crc.crc c ((ns l).drop m) : Nat) : Int) := by
  induction d with
  | zero =>
    intro k c m hc hm hk
    obtain ⟨k, rfl⟩ : ∃ q, k = q + 1 := ⟨k - 1, by omega⟩
    simp only [cellaretref1_More.l0]
    rw [if_neg (by omega), List.drop_of_length_le (by simp; omega)]
    rw [show (4294967295 : Int) = ((4294967295 : Nat) : Int) from rfl, Crc.xor_u32 _ _ hc (by decide), Nat.xor_comm]
    rfl
  | succ d ih =>
    intro k c m hc hm hk
    obtain ⟨k, rfl⟩ : ∃ q, k = q + 8 + 1 + 1 := ⟨k - 10, by omega⟩
    obtain ⟨b, hb, hlt, hdr⟩ := rd_nat hl m (by omega)
    simp only [cellaretref1_More.l0]
    rw [if_pos (by omega)]
    have h1 := ref_l1 (l := l) m b c hb (by omega) hlt 8 k c 0 rfl hc (by simp [bsteps])
    rw [show ((0 : Nat) : Int) = 0 from rfl] at h1
    rw [h1, wrap_succ m (by omega), hdr]
    exact ih k _ (m + 1) (Crc.byteStep_lt hc hlt) (by omega) (by omega)
theorem refmore_ok {l : List Int} (hl : Wf l) (hn : l.length < 9223372036854775807) {c k : Nat} (hc : c < 2 ^ 32) (hk : 10 * l.length + 1 ≤ k) : cellaretref1_More.f k c l = some (more c (ns l) : Int) := by
  unfold cellaretref1_More.f more
  rw [show (4294967295 : Int) = ((4294967295 : Nat) : Int) from rfl, Crc.xor_u32 _ _ hc (by decide), Nat.xor_comm c]
  exact ref_l0 hl hn l.length k _ 0 (Nat.xor_lt_two_pow (by decide) hc) (by omega) hk
theorem turn_eq : ∀ (k : Nat) (h : Int) (s : ByteArray) (i : Int), cellaretref1_turn.l0 k h s i = sum_fold.l0 k h s i
  | 0, _, _, _ => rfl
  | k + 1, h, s, i => by simp only [cellaretref1_turn.l0, sum_fold.l0, turn_eq k]
theorem turn_ok (s : ByteArray) (hn : s.size < 9223372036854775807) {h k : Nat} (hh : h < Crc.M) (hk : s.size + 1 ≤ k) : cellaretref1_turn.f k h s = some (Crc.fold h (bs s) : Int) := by
  unfold cellaretref1_turn.f
  rw [turn_eq]
  exact fold_ok s hn hh hk
end SumSaysParts
open SumSaysParts

theorem SumSays : cellaretlaw1_SumSays.Pure := by
  intro c l key hc h1 h2 hw hk
  have hW := wf_of hw
  have bc := bounds_u32 hc
  obtain ⟨c, rfl⟩ := Int.eq_ofNat_of_zero_le bc.1
  refine ⟨10 * l.length + key.size + 10, ?_⟩
  obtain ⟨k, hkk⟩ : ∃ k, 10 * l.length + key.size + 10 = k + 1 := ⟨_, rfl⟩
  rw [hkk]
  unfold cellaretlaw1_SumSays.f
  simp only [cellaretlaw1_awake.f, Option.bind_some, if_true]
  by_cases hl : (l.length : Int) > 5000
  · rw [if_pos hl]; simp only [cellaretlaw1_SumSays.j0]; rfl
  rw [if_neg hl]
  simp only [cellaretlaw1_SumSays.j0]
  by_cases hs : (key.size : Int) > 5000
  · rw [if_pos (decide_eq_true hs)]
  rw [if_neg (by simpa using hs)]
  simp only [Option.bind_some, List.nil_append, List.length_nil]
  have lc : c < 2 ^ 32 := by omega
  rw [if_pos (by omega), more_ok hW (by omega) lc (by omega)]; simp only [Option.bind_some]
  rw [refmore_ok hW (by omega) lc (by omega)]; simp only [Option.bind_some, if_true]
  rw [crc_ok hW (by omega) (by omega)]; simp only [Option.bind_some]
  unfold cellaretref1_Crc.f
  rw [show (0 : Int) = ((0 : Nat) : Int) from rfl, refmore_ok hW (by omega) (by decide) (by omega)]; simp only [Option.bind_some, if_true]
  rw [hash_ok key (by omega) (by omega)]; simp only [Option.bind_some]
  unfold cellaretref1_Hash.f
  rw [show (14695981039346656037 : Int) = ((14695981039346656037 : Nat) : Int) from rfl, turn_ok key (by omega) (by decide) (by omega)]; simp only [Option.bind_some]
  unfold SumFacts.hash
  rw [if_pos rfl, second_ok key (by omega) (by omega)]; simp only [Option.bind_some]
  unfold cellaretref1_Second.f
  have e0 : (⟨#[0]⟩ ++ key : ByteArray).size = key.size + 1 := by rw [ByteArray.size_append]; show 1 + key.size = _; omega
  have eb : bs (⟨#[0]⟩ ++ key) = 0 :: bs key := by simp [bs]
  rw [if_pos (by omega), show (1099511628211 : Int) = ((1099511628211 : Nat) : Int) from rfl, turn_ok _ (by omega) (by decide) (by omega)]; simp only [Option.bind_some]
  rw [eb]
  unfold second
  simp
end Go.Proofs.Ytefalfheeofhhaa.Pure
