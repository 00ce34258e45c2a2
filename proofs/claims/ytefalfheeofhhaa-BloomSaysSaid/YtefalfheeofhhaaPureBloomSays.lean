/- BloomSays, in plain Lean: the filter's bits are those that the document's own bits set, and what may be there follows from them. -/
import Derived.Test.YtefalfheeofhhaaQWS
import Derived.Test.YtefalfheeofhhaaQWP
namespace Go.Proofs.Ytefalfheeofhhaa.QW
open Go.RowKit Go.Proofs.YtefalfheeofhhaaW.PrintWords Go.Proofs.YtefalfheeofhhaaW.PrintLast Go.Proofs.YtefalfheeofhhaaW.PrintMore
open BloomFacts (places place wrap_succ place_lt Bit_ok)
theorem rdOf_natS (l : List ByteArray) (m : Nat) (h : m < l.length) : rdOf ByteArray.empty l (m : Int) = l[m] := by
 simp [rdOf, List.getD_eq_getElem?_getD, h]
theorem rdOf_bool (s : List Bool) (p : Nat) : rdOf false s (p : Int) = s.getD p false := by simp [rdOf]
section
variable (N : Nat) (hN : 8 ≤ N) (hN2 : N ≤ 65536) (T : Nat) (hT : T ≤ 8)
set_option linter.unusedSectionVars false
include hN hN2 hT
theorem says_l1 (l : List ByteArray) (a3 : ByteArray) (m : Nat) (hm : m < l.length) (hs : (l[m]).size < top) (s : List Bool) (d : Nat) : ∀ (k kk : Nat) (set : List Bool), set.length = N → kk + d = T → (l[m]).size + 2 ≤ k →
  cellaretlaw7_BloomSays.l1 (k + d + 1) (N : Int) (T : Int) l a3 set ((set.count true : Nat) : Int) (m : Int) (kk : Int) s (T : Int) =
  cellaretlaw7_BloomSays.l0 k (N : Int) (T : Int) l a3 (addS set ((List.range' kk d).map (place l[m] N))) (((addS set ((List.range' kk d).map (place l[m] N))).count true : Nat) : Int) (wrap64 ((m : Int) + 1)) s (T : Int) := by
 induction d with
 | zero =>
  intro k kk set hl hk hf
  show cellaretlaw7_BloomSays.l1 (k + 1) _ _ _ _ _ _ _ _ _ _ = _
  simp only [cellaretlaw7_BloomSays.l1]
  rw [if_neg (by omega)]
  rfl
 | succ d ih =>
  intro k kk set hl hk hf
  have hp := place_lt l[m] (n := N) (by omega) kk
  have hc := count_set set (place l[m] N kk) (by omega)
  have hcl : set.count true ≤ N := by rw [← hl]; exact List.count_le_length
  have hr : addS set ((List.range' kk (d + 1)).map (place l[m] N)) = addS (set.set (place l[m] N kk) true) ((List.range' (kk + 1) d).map (place l[m] N)) := by rw [List.range'_succ]; rfl
  obtain ⟨q, hq⟩ : ∃ q, q = k + d + 1 := ⟨_, rfl⟩
  rw [show k + (d + 1) + 1 = q + 1 from by omega]
  simp only [cellaretlaw7_BloomSays.l1]
  rw [if_pos (by omega), if_pos (by omega), if_pos (by omega), rdOf_natS l m hm, Bit_ok l[m] (by unfold top at hs; omega) kk N (by unfold Crc.M; omega) (by omega) hN2 (by omega)]
  rw [Option.bind_some]
  rw [if_pos (by omega), if_pos (by omega), rdOf_bool, Int.toNat_natCast, wrap_succ kk (by omega), hr]
  have hi := ih k (kk + 1) (set.set (place l[m] N kk) true) (by rw [List.length_set]; exact hl) (by omega) hf
  rw [← hq] at hi
  by_cases hg : set.getD (place l[m] N kk) false = true
  · rw [if_pos hg]
    rw [set_same set _ hg] at hi ⊢
    exact hi
  · rw [if_neg hg, wrap_succ _ (by omega)]
    rw [if_neg hg] at hc
    rw [hc] at hi
    exact hi
theorem says_l3 (s : List Bool) (hs : s.length = N) (d : Nat) : ∀ (k m : Nat), m + d = (bits s).length → d + 1 ≤ k → cellaretlaw7_BloomSays.l3 k (N : Int) s ((bits s).map Int.ofNat) (m : Int) = some true := by
 have hcl : (bits s).length ≤ N := by rw [bits_length, ← hs]; exact List.count_le_length
 have hsort : ∀ i j (hi : i < (bits s).length) (hj : j < (bits s).length), i < j → (bits s)[i] < (bits s)[j] := by
  have : (bits s).Pairwise (· < ·) := List.Pairwise.filter _ List.pairwise_lt_range
  exact List.pairwise_iff_getElem.1 this
 induction d with
 | zero =>
  intro k m hm hk
  obtain ⟨k, rfl⟩ : ∃ q, k = q + 1 := ⟨k - 1, by omega⟩
  simp only [cellaretlaw7_BloomSays.l3]
  rw [if_neg (by rw [List.length_map]; omega)]
 | succ d ih =>
  intro k m hm hk
  obtain ⟨k, rfl⟩ : ∃ q, k = q + 1 := ⟨k - 1, by omega⟩
  have hm2 : m < (bits s).length := by omega
  have hmem := (mem_bits s (bits s)[m]).1 (List.getElem_mem hm2)
  have hlt : (bits s)[m] < N := by
   rcases Nat.lt_or_ge (bits s)[m] N with h1 | h1
   · exact h1
   · rw [List.getD_eq_getElem?_getD, List.getElem?_eq_none (by omega)] at hmem
     simp at hmem
  have hi := ih k (m + 1) (by omega) (by omega)
  simp only [cellaretlaw7_BloomSays.l3]
  rw [if_pos (by rw [List.length_map]; omega), if_pos (by omega), rd_ofNat (bits s) m hm2, if_neg (by omega), if_neg (by omega), if_pos (by omega), if_pos (by omega), rdOf_bool, if_pos hmem, wrap_succ m (by omega)]
  by_cases h0 : (m : Int) > 0
  · have hw : wrap64 ((m : Int) - 1) = ((m - 1 : Nat) : Int) := by unfold wrap64; omega
    rw [if_pos h0, hw, if_pos (by omega), if_pos (by rw [List.length_map]; omega), rd_ofNat (bits s) (m - 1) (by omega), if_neg (by have := hsort (m - 1) m (by omega) hm2 (by omega); omega)]
    exact hi
  · rw [if_neg h0]
    exact hi
theorem says_l2 (a3 : ByteArray) (h3 : a3.size < top) (s : List Bool) (hs : s.length = N) (d : Nat) : ∀ (k kk : Nat) (may : Bool), kk + d = T → a3.size + 2 ≤ k →
  cellaretlaw7_BloomSays.l2 (k + d + 1) (N : Int) (T : Int) a3 s ((s.count true : Nat) : Int) may (kk : Int) s (T : Int) =
  cellaretlaw7_BloomSays.j5 k (N : Int) s ((bits s).map Int.ofNat) ((pls a3 s (T : Int)).all (fun p => s.getD p false) != (may && ((List.range' kk d).map (place a3 N)).all (fun p => s.getD p false))) := by
 induction d with
 | zero =>
  intro k kk may hk hf
  show cellaretlaw7_BloomSays.l2 (k + 1) _ _ _ _ _ _ _ _ _ = _
  simp only [cellaretlaw7_BloomSays.l2]
  rw [if_neg (by omega)]
  unfold bloom_Filter_Bits.f
  rw [Option.bind_some]
  show (if (((bits s).map Int.ofNat).length : Int) = ((s.count true : Nat) : Int) then (bloom_Filter_Count.f s (T : Int)).bind _ else _) = _
  rw [if_pos (by rw [List.length_map, bits_length])]
  unfold bloom_Filter_Count.f
  rw [Option.bind_some]
  show (if ((bits s).length : Int) = ((s.count true : Nat) : Int) then (bloom_Filter_May.f s (T : Int) a3).bind _ else _) = _
  rw [if_pos (by rw [bits_length])]
  unfold bloom_Filter_May.f
  rw [if_pos h3]
  rw [Option.bind_some]
  show cellaretlaw7_BloomSays.j5 k _ _ _ ((pls a3 s (T : Int)).all (fun p => s.getD p false) != may) = _
  rw [show ((List.range' kk 0).map (place a3 N)).all (fun p => s.getD p false) = true from rfl, Bool.and_true]
 | succ d ih =>
  intro k kk may hk hf
  have hp := place_lt a3 (n := N) (by omega) kk
  obtain ⟨q, hq⟩ : ∃ q, q = k + d + 1 := ⟨_, rfl⟩
  have hi := fun may => ih k (kk + 1) may (by omega) hf
  rw [← hq] at hi
  rw [show k + (d + 1) + 1 = q + 1 from by omega]
  simp only [cellaretlaw7_BloomSays.l2]
  rw [if_pos (by omega), wrap_succ kk (by omega), List.range'_succ, List.map_cons, List.all_cons]
  cases may with
  | true =>
   rw [if_pos rfl, Bit_ok a3 (by unfold top at h3; omega) kk N (by unfold Crc.M; omega) (by omega) hN2 (by omega)]
   rw [Option.bind_some]
   rw [if_pos (by omega), if_pos (by omega), rdOf_bool, hi, Bool.true_and]
  | false =>
   rw [if_neg (show ¬ (false = true) by decide), hi, Bool.false_and, Bool.false_and]
theorem says_l0 (l : List ByteArray) (hl : ∀ s ∈ l, s.size < top) (hlen : l.length ≤ 60) (a3 : ByteArray) (h3 : a3.size < top) (S : Nat) (hS : ∀ s ∈ l, s.size + 2 ≤ S) (hS3 : a3.size + 2 ≤ S) (d : Nat) : ∀ (k m : Nat) (s : List Bool), s.length = N → m + d = l.length → S + 70000 + d * 10 ≤ k →
  cellaretlaw7_BloomSays.l0 k (N : Int) (T : Int) l a3 s ((s.count true : Nat) : Int) (m : Int) s (T : Int) = some true := by
 induction d with
 | zero =>
  intro k m s hs hm hk
  obtain ⟨k, rfl⟩ : ∃ q, k = q + T + 1 + 1 := ⟨k - T - 2, by omega⟩
  have hcl : (bits s).length ≤ N := by rw [bits_length, ← hs]; exact List.count_le_length
  simp only [cellaretlaw7_BloomSays.l0]
  rw [if_neg (by omega)]
  have h2 := says_l2 N hN hN2 T hT a3 h3 s hs T k 0 true (by omega) (by omega)
  rw [show ((0 : Nat) : Int) = 0 from rfl] at h2
  rw [h2]
  obtain ⟨k, rfl⟩ : ∃ q, k = q + 1 := ⟨k - 1, by omega⟩
  have he : (pls a3 s (T : Int)).all (fun p => s.getD p false) = (true && ((List.range' 0 T).map (place a3 N)).all (fun p => s.getD p false)) := by
   rw [Bool.true_and, pls_eq a3 s (T : Int) hs, Int.toNat_natCast]
   unfold places
   rw [List.range_eq_range']
  rw [he, bne_self_eq_false]
  simp only [cellaretlaw7_BloomSays.j5]
  rw [if_neg (show ¬ (false = true) by decide)]
  have := says_l3 N hN hN2 T hT s hs (bits s).length k 0 (by omega) (by omega)
  rw [show ((0 : Nat) : Int) = 0 from rfl] at this
  exact this
 | succ d ih =>
  intro k m s hs hm hk
  obtain ⟨k, rfl⟩ : ∃ q, k = q + T + 1 + 1 := ⟨k - T - 2, by omega⟩
  have hm2 : m < l.length := by omega
  have hsz := hl _ (List.getElem_mem hm2)
  have hsz2 := hS _ (List.getElem_mem hm2)
  simp only [cellaretlaw7_BloomSays.l0]
  rw [if_pos (by omega), if_pos (by omega), rdOf_natS l m hm2]
  unfold bloom_Filter_Add.f
  rw [if_pos hsz]
  rw [Option.bind_some]
  show cellaretlaw7_BloomSays.l1 (k + T + 1) (N : Int) (T : Int) l a3 s ((s.count true : Nat) : Int) (m : Int) 0 (addS s (pls l[m] s (T : Int))) (T : Int) = _
  have h1 := says_l1 N hN hN2 T hT l a3 m hm2 hsz (addS s (pls l[m] s (T : Int))) T k 0 s hs (by omega) (by omega)
  rw [show ((0 : Nat) : Int) = 0 from rfl] at h1
  have he : pls l[m] s (T : Int) = (List.range' 0 T).map (place l[m] N) := by
   rw [pls_eq l[m] s (T : Int) hs, Int.toNat_natCast]
   unfold places
   rw [List.range_eq_range']
  rw [h1, ← he, wrap_succ m (by omega)]
  exact ih k (m + 1) _ (by rw [addS_length]; exact hs) (by omega) (by omega)
end
theorem says_ok (a0 a1 : Int) (l : List ByteArray) (hl : ∀ s ∈ l, s.size ≤ 140737488351232) (a3 : ByteArray) (h3 : a3.size ≤ 140737488351232) (hv : 8 ≤ a0 ∧ a0 ≤ 65536 ∧ 1 ≤ a1 ∧ a1 ≤ 8) : cellaretlaw7_BloomSays.f (140737488351232 + 100000) a0 a1 l a3 = some true := by
 obtain ⟨S, hS⟩ : ∃ S : Nat, S = 140737488351232 := ⟨_, rfl⟩
 rw [← hS] at hl h3 ⊢
 have hSt : S < top := by unfold top; omega
 obtain ⟨K, hK⟩ : ∃ K : Nat, K = S + 100000 := ⟨_, rfl⟩
 rw [← hK]
 obtain ⟨N, rfl⟩ : ∃ N : Nat, a0 = (N : Int) := ⟨a0.toNat, by omega⟩
 obtain ⟨T, rfl⟩ : ∃ T : Nat, a1 = (T : Int) := ⟨a1.toNat, by omega⟩
 obtain ⟨k, rfl⟩ : ∃ q, K = q + 1 + 1 := ⟨K - 2, by omega⟩
 unfold cellaretlaw7_BloomSays.f
 rw [awake_ok (k + 1)]
 rw [Option.bind_some]
 rw [if_pos rfl]
 unfold bloom_New.f
 rw [if_pos hv]
 rw [Option.bind_some]
 rw [if_neg (by omega), if_neg (by omega), if_neg (by omega), decide_eq_false (by omega)]
 show cellaretlaw7_BloomSays.j0 (k + 1 + 1) (N : Int) (T : Int) l a3 0 false (List.replicate (N : Int).toNat false) (T : Int) = _
 have hj1 : cellaretlaw7_BloomSays.j1 (k + 1) (N : Int) (T : Int) l a3 0 true (List.replicate (N : Int).toNat false) (T : Int) = some true := by
  simp only [cellaretlaw7_BloomSays.j1]
  first
  | rw [if_pos rfl, if_pos rfl]
  | simp
 simp only [cellaretlaw7_BloomSays.j0]
 rw [if_neg (show ¬ (false = true) by decide)]
 first | rw [if_pos rfl] | rw [if_pos trivial]
 by_cases hlen : (l.length : Int) > 60
 · rw [if_pos hlen]
   exact hj1
 · rw [if_neg hlen]
   by_cases hk3 : (a3.size : Int) > 1000
   · rw [decide_eq_true hk3]
     exact hj1
   · rw [decide_eq_false hk3]
     simp only [cellaretlaw7_BloomSays.j1]
     rw [if_neg (show ¬ (false = true) by decide), if_pos (by omega), if_pos (by omega)]
     have := says_l0 N (by omega) (by omega) T (by omega) l (fun s h => Nat.lt_of_le_of_lt (hl s h) hSt) (by omega) a3 (Nat.lt_of_le_of_lt h3 hSt) (S + 2) (fun s h => by have := hl s h; omega) (by omega) l.length k 0 (List.replicate N false) List.length_replicate (by omega) (by omega)
     rw [← bits_length, bits_replicate] at this
     exact this
end Go.Proofs.Ytefalfheeofhhaa.QW
