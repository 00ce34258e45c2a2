/- What the document's Take comes to: the same function on bytes. -/
import Derived.Test.YtefalfheeofhhaaQRTake
import Derived.Test.YtefalfheeofhhaaQRx24
namespace Go.Proofs.Ytefalfheeofhhaa.RecFacts
open Go.RowKit Go.Proofs.Ytefalfheeofhhaa.QR Go.Proofs.YtefalfheeofhhaaW.PrintWords Go.Proofs.YtefalfheeofhhaaW.PrintLast Go.Proofs.YtefalfheeofhhaaW.PrintMore
theorem up_l0 {s : ByteArray} (hn : s.size ≤ 8) (m : Nat) : ∀ (k : Nat), m ≤ s.size → m + 1 ≤ k → cellaretref4_Up.l0 k s (num ((bs s).drop m) : Int) ((m : Int) - 1) = some (num (bs s) : Int) := by
  induction m with
  | zero =>
    intro k _ hk
    obtain ⟨k, rfl⟩ : ∃ q, k = q + 1 := ⟨k - 1, by omega⟩
    simp only [cellaretref4_Up.l0]
    rw [if_neg (by omega)]
    simp
  | succ m ih =>
    intro k hm hk
    obtain ⟨k, rfl⟩ : ∃ q, k = q + 1 := ⟨k - 1, by omega⟩
    simp only [cellaretref4_Up.l0]
    have hr : ((m + 1 : Nat) : Int) - 1 = (m : Int) := by omega
    rw [hr, if_pos (by omega), if_pos (by omega), if_pos (by omega)]
    obtain ⟨b, hb, hlt, hdr⟩ := bt_nat s m (by omega)
    have hsm : num ((bs s).drop (m + 1)) < 256 ^ 7 := by
      have h1 := num_lt (l := (bs s).drop (m + 1)) (fun x hx => bs_lt s x (List.mem_of_mem_drop hx))
      refine Nat.lt_of_lt_of_le h1 (Nat.pow_le_pow_right (by decide) ?_)
      rw [List.length_drop, bs_length]
      omega
    have hv : num ((bs s).drop (m + 1)) * 256 < 2 ^ 64 := by
      have : (256 : Nat) ^ 7 = 72057594037927936 := by decide
      omega
    rw [hb, show IntKind.u64.wrap (b : Int) = (b : Int) from by rw [Crc.wrap_u64]; omega]
    rw [show IntKind.u64.wrap ((num ((bs s).drop (m + 1)) : Int) * 256) = ((num ((bs s).drop (m + 1)) * 256 : Nat) : Int) from by rw [Crc.wrap_u64]; omega]
    rw [or_u64 _ _ hv hlt, show wrap64 ((m : Int) - 1) = (m : Int) - 1 from by unfold wrap64; omega]
    have := ih k (by omega) (by omega)
    rw [hdr, num_cons] at this
    exact this
theorem up_ok {s : ByteArray} (hn : s.size ≤ 8) {k : Nat} (hk : 9 ≤ k) : cellaretref4_Up.f k s = some (num (bs s) : Int) := by
  unfold cellaretref4_Up.f
  have h := up_l0 hn s.size k (Nat.le_refl _) (by omega)
  rw [List.drop_of_length_le (by rw [bs_length]; omega)] at h
  rw [show wrap64 ((s.size : Int) - 1) = (s.size : Int) - 1 from by unfold wrap64; omega]
  exact h
theorem bytesN_mid (s : ByteArray) (a b : Nat) : bytesN (((bs s).take b).drop a) = s.extract a b := by rw [← bs_extract, bytesN_bs]
theorem size_extract (s : ByteArray) (a b : Nat) (h : b ≤ s.size) : (s.extract a b).size = b - a := by
  rw [← bs_length, bs_extract]
  simp only [List.length_drop, List.length_take, bs_length]
  omega

section
variable {s : ByteArray} (hn : s.size ≤ 1000000)
include hn
theorem rtake_j2 {k : Nat} (hk : 10 * s.size + 12 ≤ k) (hb : eOf (bs s) ≤ s.size) (h32 : 32 ≤ s.size) : cellaretref4_Take.j2 (k + 1) s (kOf (bs s) : Int) (vOf (bs s) : Int) false = some (okR (bs s)) := by
  have hw := bs_lt s
  have hK := kOf_lt hw
  have hV := vOf_lt hw
  have hE : eOf (bs s) = 32 + kOf (bs s) + vOf (bs s) := rfl
  have e32 : wrap64 (32 + (kOf (bs s) : Int)) = ((32 + kOf (bs s) : Nat) : Int) := by unfold wrap64; omega
  have eE : wrap64 (((32 + kOf (bs s) : Nat) : Int) + (vOf (bs s) : Int)) = (eOf (bs s) : Int) := by unfold wrap64; omega
  simp only [cellaretref4_Take.j2]
  rw [if_neg (by decide), e32, eE, if_pos (by omega), if_pos (by omega), if_pos (by omega), if_pos (by omega), if_pos (by omega), if_pos (by omega), if_pos (by omega)]
  rw [up_ok (by rw [size_extract _ _ _ (by omega)]; omega) (by omega)]; simp only [Option.bind_some]
  rw [if_pos (by omega), if_pos (by omega), up_ok (by rw [size_extract _ _ _ (by omega)]; omega) (by omega)]; simp only [Option.bind_some]
  rw [if_pos (by omega), if_pos (by omega), up_ok (by rw [size_extract _ _ _ (by omega)]; omega) (by omega)]; simp only [Option.bind_some]
  simp only [Int.toNat_natCast, bs_extract]
  have hf : num (((bs s).take 8).drop 4) < 4294967296 := num_mid_lt hw 4 8 4 (by omega)
  unfold okR
  rw [bytesN_mid, bytesN_mid]
  rw [show ((num (((bs s).take 8).drop 4) : Int) % 4294967296) = (num (((bs s).take 8).drop 4) : Int) from by omega]
omit hn in
theorem rtake_j2_bad {k : Nat} (x y : Int) : cellaretref4_Take.j2 (k + 1) s x y true = some formR := by simp only [cellaretref4_Take.j2]; rfl
theorem rtake_j1 {k : Nat} (hk : 10 * s.size + 13 ≤ k) (h32 : 32 ≤ s.size) : cellaretref4_Take.j1 (k + 1) s false = some (if restOk (bs s) then okR (bs s) else formR) := by
  obtain ⟨k, rfl⟩ : ∃ q, k = q + 1 := ⟨k - 1, by omega⟩
  have hw := bs_lt s
  have hK := kOf_lt hw
  have hV := vOf_lt hw
  have hE : eOf (bs s) = 32 + kOf (bs s) + vOf (bs s) := rfl
  have er : bt s 0 = (kOf (bs s) : Int) := bt_getD s 0 (by omega)
  simp only [cellaretref4_Take.j1]
  rw [if_neg (by decide), if_pos (by omega), if_pos (by omega), if_pos (by omega)]
  rw [up_ok (by rw [size_extract _ _ _ (by omega)]; omega) (by omega)]; simp only [Option.bind_some]
  rw [bs_extract, er]
  have w0 : wrap64 (kOf (bs s) : Int) = (kOf (bs s) : Int) := by unfold wrap64; omega
  have w1 : wrap64 (num (((bs s).take 3).drop 1) : Int) = (vOf (bs s) : Int) := by
    show wrap64 (vOf (bs s) : Int) = _
    unfold wrap64; omega
  have w2 : wrap64 (wrap64 (32 + (kOf (bs s) : Int)) + (vOf (bs s) : Int)) = (eOf (bs s) : Int) := by unfold wrap64; omega
  rw [w0, w1, w2]
  have bad : ∀ b : Bool, b = false → (some formR : Option TakeR) = some (if b then okR (bs s) else formR) := fun b h => by rw [h]; rfl
  by_cases c1 : kOf (bs s) ≤ 250
  · rw [if_neg (by omega)]
    by_cases c2 : vOf (bs s) ≤ 1024
    · rw [if_neg (by omega), if_pos (by omega), if_pos (by omega)]
      rw [up_ok (by rw [size_extract _ _ _ (by omega)]; omega) (by omega)]; simp only [Option.bind_some]
      rw [bs_extract]
      by_cases c3 : 0 < num (((bs s).take 24).drop 16)
      · rw [if_neg (by omega)]
        by_cases c4 : eOf (bs s) ≤ s.size
        · rw [if_neg (by omega), if_pos (by omega), if_pos (by omega)]
          rw [up_ok (by rw [size_extract _ _ _ (by omega)]; omega) (by omega)]; simp only [Option.bind_some]
          rw [if_pos (by omega), if_pos (by omega)]
          simp only [Int.toNat_natCast]
          rw [refcrc_ok _ (by rw [size_extract _ _ _ (by omega)]; omega) (by rw [size_extract _ _ _ (by omega)]; omega)]; simp only [Option.bind_some]
          rw [bs_extract, bs_extract]
          by_cases c5 : num (((bs s).take 32).drop 28) = more 0 (((bs s).take (eOf (bs s))).drop 32)
          · rw [c5, bne_self_eq_false, rtake_j2 hn (by omega) c4 h32]
            have : restOk (bs s) = true := by
              unfold restOk
              simp [c1, c2, c3, c5, c4]
            rw [this]; rfl
          · rw [show (((num (((bs s).take 32).drop 28) : Nat) : Int) != (more 0 (((bs s).take (eOf (bs s))).drop 32) : Int)) = true from by rw [bne_iff_ne]; omega, rtake_j2_bad]
            exact bad _ (by unfold restOk; rw [decide_eq_false c5]; simp)
        · rw [if_pos (by omega), rtake_j2_bad]
          exact bad _ (by unfold restOk; rw [bs_length, decide_eq_false c4]; simp)
      · rw [if_pos (by omega), rtake_j2_bad]
        exact bad _ (by unfold restOk; rw [decide_eq_false c3]; simp)
    · rw [if_pos (by omega), rtake_j2_bad]
      exact bad _ (by unfold restOk; rw [decide_eq_false c2]; simp)
  · rw [if_pos (by omega), rtake_j2_bad]
    exact bad _ (by unfold restOk; rw [decide_eq_false c1]; simp)
omit hn in
theorem rtake_j1_bad {k : Nat} : cellaretref4_Take.j1 (k + 1) s true = some formR := by simp only [cellaretref4_Take.j1]; rfl
theorem ref_take {k : Nat} (hk : 10 * s.size + 16 ≤ k) : cellaretref4_Take.f k s = some (takeN (bs s)) := by
  obtain ⟨k, rfl⟩ : ∃ q, k = q + 2 := ⟨k - 2, by omega⟩
  unfold cellaretref4_Take.f
  have hempty : s.toList = [] ↔ s.size = 0 := by
    rw [ByteArray.toList_eq, ← List.length_eq_zero_iff, Array.length_toList]; rfl
  by_cases c0 : s.size = 0
  · rw [if_pos (hempty.2 c0)]
    have e : takeN (bs s) = noneR := by
      unfold takeN
      rw [if_pos (.inl (by rw [bs_length]; exact c0))]
    rw [e]
    simp only [cellaretref4_Take.j0]
    rfl
  rw [if_neg (fun h => c0 (hempty.1 h)), if_pos (by omega)]
  have er : bt s 0 = (kOf (bs s) : Int) := bt_getD s 0 (by omega)
  rw [er]
  by_cases cz : kOf (bs s) = 0
  · have e : takeN (bs s) = noneR := by
      unfold takeN
      rw [if_pos (.inr cz)]
    rw [cz, e]
    simp only [cellaretref4_Take.j0]
    rfl
  rw [show ((kOf (bs s) : Int) == 0) = false from by rw [beq_eq_false_iff_ne]; omega]
  have e : takeN (bs s) = if headOk (bs s) && restOk (bs s) then okR (bs s) else formR := by
    unfold takeN
    rw [if_neg (by rintro (h | h); exact c0 (by rw [bs_length] at h; exact h); exact cz h)]
  rw [e]
  simp only [cellaretref4_Take.j0]
  rw [if_neg (by decide)]
  by_cases c32 : s.size < 32
  · rw [if_pos (by omega), rtake_j1_bad, if_neg (by unfold headOk; rw [bs_length]; simp; omega)]
  rw [if_neg (by omega), if_pos (by omega)]
  have e3 : bt s 3 = ((bs s).getD 3 0 : Int) := bt_getD s 3 (by omega)
  rw [e3]
  by_cases c82 : (bs s).getD 3 0 = 82
  · rw [if_pos (by omega), if_pos (by omega), if_pos (by omega)]
    rw [up_ok (by rw [size_extract _ _ _ (by omega)]; omega) (by omega)]; simp only [Option.bind_some]
    rw [if_pos (by omega), if_pos (by omega)]
    rw [refcrc_ok _ (by rw [size_extract _ _ _ (by omega)]; omega) (by rw [size_extract _ _ _ (by omega)]; omega)]; simp only [Option.bind_some]
    rw [bs_extract, bs_extract, List.drop_zero]
    by_cases c2 : num (((bs s).take 28).drop 24) = more 0 ((bs s).take 24)
    · rw [c2, bne_self_eq_false, rtake_j1 hn (by omega) (by omega)]
      have : headOk (bs s) = true := by unfold headOk; rw [c82, c2, bs_length]; simp; omega
      rw [this, Bool.true_and]
    · rw [show (((num (((bs s).take 28).drop 24) : Nat) : Int) != (more 0 ((bs s).take 24) : Int)) = true from by rw [bne_iff_ne]; omega, rtake_j1_bad, if_neg (by unfold headOk; simp [c2])]
  · rw [if_neg (by omega), rtake_j1_bad, if_neg (by unfold headOk; rw [decide_eq_false c82]; simp)]
end
end Go.Proofs.Ytefalfheeofhhaa.RecFacts
