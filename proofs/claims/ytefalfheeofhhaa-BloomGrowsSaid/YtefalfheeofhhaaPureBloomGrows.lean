/- BloomGrows, in plain Lean: with each key no fewer bits, and at most as many more as turns. -/
import Derived.Test.YtefalfheeofhhaaQWO
import Derived.Test.YtefalfheeofhhaaQWP
namespace Go.Proofs.Ytefalfheeofhhaa.QW
open Go.RowKit Go.Proofs.YtefalfheeofhhaaW.PrintWords Go.Proofs.YtefalfheeofhhaaW.PrintLast Go.Proofs.YtefalfheeofhhaaW.PrintMore
open BloomFacts (places place wrap_succ)
theorem rdOf_natG (l : List ByteArray) (m : Nat) (h : m < l.length) : rdOf ByteArray.empty l (m : Int) = l[m] := by
 simp [rdOf, List.getD_eq_getElem?_getD, h]
theorem grows_l0 (l : List ByteArray) (hl : ∀ s ∈ l, s.size < top) (n : Nat) (hn : 8 ≤ n) (hn2 : n ≤ 65536) (T : Int) (hT : 1 ≤ T) (hT8 : T ≤ 8) (hlen : l.length ≤ 60) (d : Nat) :
  ∀ (k m : Nat) (set : List Bool), set.length = n → m + d = l.length → d + 1 ≤ k → cellaretlaw7_BloomGrows.l0 k T l ((set.count true : Nat) : Int) (m : Int) set T = some true := by
 induction d with
 | zero =>
  intro k m set hs hm hk
  obtain ⟨k, rfl⟩ : ∃ q, k = q + 1 := ⟨k - 1, by omega⟩
  simp only [cellaretlaw7_BloomGrows.l0]
  rw [if_neg (by omega)]
 | succ d ih =>
  intro k m set hs hm hk
  obtain ⟨k, rfl⟩ : ∃ q, k = q + 1 := ⟨k - 1, by omega⟩
  have hm2 : m < l.length := by omega
  have hlt := pls_lt l[m] set T (by omega)
  have hle := cnt_le (pls l[m] set T) set hlt
  have hcl : set.count true ≤ n := by rw [← hs]; exact List.count_le_length
  rw [pls_length] at hle
  have hwr : wrap64 (((set.count true : Nat) : Int) + T) = ((set.count true : Nat) : Int) + T := by unfold wrap64; omega
  simp only [cellaretlaw7_BloomGrows.l0]
  rw [if_pos (by omega), if_pos (by omega), rdOf_natG l m hm2]
  unfold bloom_Filter_May.f
  rw [if_pos (hl _ (List.getElem_mem hm2))]
  rw [Option.bind_some]
  show (bloom_Filter_Add.f set T l[m]).bind _ = _
  unfold bloom_Filter_Add.f
  rw [if_pos (hl _ (List.getElem_mem hm2))]
  rw [Option.bind_some]
  show (bloom_Filter_Count.f (addS set (pls l[m] set T)) T).bind _ = _
  unfold bloom_Filter_Count.f
  rw [Option.bind_some, bits_length]
  show (if (((addS set (pls l[m] set T)).count true : Nat) : Int) < ((set.count true : Nat) : Int) then _ else _) = _
  rw [if_neg (by omega)]
  show (if (((addS set (pls l[m] set T)).count true : Nat) : Int) > wrap64 (((set.count true : Nat) : Int) + T) then _ else _) = _
  rw [if_neg (by rw [hwr]; omega), wrap_succ m (by omega)]
  have hih := ih k (m + 1) (addS set (pls l[m] set T)) (by rw [addS_length]; exact hs) (by omega) (by omega)
  show (if (pls l[m] set T).all (fun p => set.getD p false) = true then (if (((addS set (pls l[m] set T)).count true : Nat) : Int) = ((set.count true : Nat) : Int) then cellaretlaw7_BloomGrows.l0 k T l (((addS set (pls l[m] set T)).count true : Nat) : Int) ((m + 1 : Nat) : Int) (addS set (pls l[m] set T)) T else some false) else (if (((addS set (pls l[m] set T)).count true : Nat) : Int) = ((set.count true : Nat) : Int) then some false else cellaretlaw7_BloomGrows.l0 k T l (((addS set (pls l[m] set T)).count true : Nat) : Int) ((m + 1 : Nat) : Int) (addS set (pls l[m] set T)) T)) = _
  by_cases hall : (pls l[m] set T).all (fun p => set.getD p false) = true
  · rw [if_pos hall, if_pos (by rw [cnt_same _ _ hall]), hih]
  · have := cnt_more (pls l[m] set T) set hlt (Bool.eq_false_iff.mpr hall)
    rw [if_neg hall, if_neg (by omega), hih]
/-- In a filter that can be made: the law answers true. -/
theorem grows_ok (a0 a1 : Int) (l : List ByteArray) (hl : ∀ s ∈ l, s.size < top) (hv : 8 ≤ a0 ∧ a0 ≤ 65536 ∧ 1 ≤ a1 ∧ a1 ≤ 8) : cellaretlaw7_BloomGrows.f 300 a0 a1 l = some true := by
 obtain ⟨K, hK⟩ : ∃ K : Nat, K = 300 := ⟨_, rfl⟩
 rw [← hK]
 unfold cellaretlaw7_BloomGrows.f
 obtain ⟨k, rfl⟩ : ∃ q, K = q + 1 := ⟨K - 1, by omega⟩
 rw [awake_ok k]
 rw [Option.bind_some]
 rw [if_pos rfl]
 unfold bloom_New.f
 rw [if_pos hv]
 rw [Option.bind_some]
 rw [if_pos rfl]
 show cellaretlaw7_BloomGrows.j0 (k + 1) a1 l (decide ((l.length : Int) > 60)) (List.replicate a0.toNat false) a1 = _
 simp only [cellaretlaw7_BloomGrows.j0]
 by_cases hlen : (l.length : Int) > 60
 · rw [decide_eq_true hlen, if_pos rfl]
 · rw [decide_eq_false hlen, if_neg (show ¬ (false = true) by decide)]
   have := grows_l0 l hl a0.toNat (by omega) (by omega) a1 (by omega) (by omega) (by omega) l.length k 0 (List.replicate a0.toNat false) List.length_replicate (by omega) (by omega)
   rw [← bits_length, bits_replicate] at this
   exact this
end Go.Proofs.Ytefalfheeofhhaa.QW
