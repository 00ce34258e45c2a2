/- BloomNever, in plain Lean: what was told is in the filter; what was cleared is not. -/
import Derived.Test.YtefalfheeofhhaaQWN
import Derived.Test.YtefalfheeofhhaaQWP
namespace Go.Proofs.Ytefalfheeofhhaa.QW
open Go.RowKit Go.Proofs.YtefalfheeofhhaaW.PrintWords Go.Proofs.YtefalfheeofhhaaW.PrintLast Go.Proofs.YtefalfheeofhhaaW.PrintMore
open BloomFacts (places place wrap_succ)
theorem rdOf_nat (l : List ByteArray) (m : Nat) (h : m < l.length) : rdOf ByteArray.empty l (m : Int) = l[m] := by
 simp [rdOf, List.getD_eq_getElem?_getD, h]
section
variable (l : List ByteArray) (hl : ∀ s ∈ l, s.size < top) (n : Nat) (hn : 8 ≤ n) (T : Int) (hT : 1 ≤ T) (hlen : l.length ≤ 60)
set_option linter.unusedSectionVars false
include hl hn hT hlen
theorem never_l2 (d : Nat) : ∀ (k m : Nat), m + d = l.length → d + 1 ≤ k → cellaretlaw7_BloomNever.l2 k l (m : Int) (List.replicate n false) T = some true := by
 induction d with
 | zero =>
  intro k m hm hk
  obtain ⟨k, rfl⟩ : ∃ q, k = q + 1 := ⟨k - 1, by omega⟩
  simp only [cellaretlaw7_BloomNever.l2]
  rw [if_neg (by omega)]
  unfold bloom_Filter_Count.f
  rw [Option.bind_some]
  show some (((bits (List.replicate n false)).length : Int) == 0) = _
  rw [bits_replicate]
  rfl
 | succ d ih =>
  intro k m hm hk
  obtain ⟨k, rfl⟩ : ∃ q, k = q + 1 := ⟨k - 1, by omega⟩
  have hm2 : m < l.length := by omega
  simp only [cellaretlaw7_BloomNever.l2]
  rw [if_pos (by omega), if_pos (by omega), rdOf_nat l m hm2]
  unfold bloom_Filter_May.f
  rw [if_pos (hl _ (List.getElem_mem hm2)), new_none _ n T hT]
  rw [Option.bind_some]
  rw [if_neg (show ¬ (false = true) by decide), wrap_succ m (by omega)]
  exact ih k (m + 1) (by omega) (by omega)
theorem never_l1 (set : List Bool) (hs : set.length = n) (hg : ∀ s ∈ l, ∀ p ∈ pls s set T, set.getD p false = true) (d : Nat) : ∀ (k m : Nat), m + d = l.length → d + l.length + 2 ≤ k → cellaretlaw7_BloomNever.l1 k l (m : Int) set T = some true := by
 induction d with
 | zero =>
  intro k m hm hk
  obtain ⟨k, rfl⟩ : ∃ q, k = q + 1 := ⟨k - 1, by omega⟩
  simp only [cellaretlaw7_BloomNever.l1]
  rw [if_neg (by omega)]
  unfold bloom_Filter_Clear.f
  rw [Option.bind_some, hs]
  exact never_l2 l hl n hn T hT hlen l.length k 0 (by omega) (by omega)
 | succ d ih =>
  intro k m hm hk
  obtain ⟨k, rfl⟩ : ∃ q, k = q + 1 := ⟨k - 1, by omega⟩
  have hm2 : m < l.length := by omega
  have ha : (pls l[m] set T).all (fun p => set.getD p false) = true := by
   rw [List.all_eq_true]
   exact hg _ (List.getElem_mem hm2)
  simp only [cellaretlaw7_BloomNever.l1]
  rw [if_pos (by omega), if_pos (by omega), rdOf_nat l m hm2]
  unfold bloom_Filter_May.f
  rw [if_pos (hl _ (List.getElem_mem hm2)), ha]
  rw [Option.bind_some]
  rw [if_pos rfl, wrap_succ m (by omega)]
  exact ih k (m + 1) (by omega) (by omega)
theorem never_l0 (d : Nat) : ∀ (k m : Nat) (set : List Bool), set.length = n → (∀ j (hj : j < l.length), j < m → ∀ p ∈ pls l[j] set T, set.getD p false = true) → m + d = l.length → d + 2 * l.length + 3 ≤ k → cellaretlaw7_BloomNever.l0 k l (m : Int) set T = some true := by
 induction d with
 | zero =>
  intro k m set hs hg hm hk
  obtain ⟨k, rfl⟩ : ∃ q, k = q + 1 := ⟨k - 1, by omega⟩
  simp only [cellaretlaw7_BloomNever.l0]
  rw [if_neg (by omega)]
  refine never_l1 l hl n hn T hT hlen set hs (fun s hs2 => ?_) l.length k 0 (by omega) (by omega)
  obtain ⟨j, hj, rfl⟩ := List.getElem_of_mem hs2
  exact hg j hj (by omega)
 | succ d ih =>
  intro k m set hs hg hm hk
  obtain ⟨k, rfl⟩ : ∃ q, k = q + 1 := ⟨k - 1, by omega⟩
  have hm2 : m < l.length := by omega
  simp only [cellaretlaw7_BloomNever.l0]
  rw [if_pos (by omega), if_pos (by omega), rdOf_nat l m hm2]
  unfold bloom_Filter_Add.f
  rw [if_pos (hl _ (List.getElem_mem hm2))]
  rw [Option.bind_some]
  rw [wrap_succ m (by omega)]
  refine ih k (m + 1) _ (by rw [addS_length]; exact hs) (fun j hj hjm p hp => ?_) (by omega) (by omega)
  rw [pls_eq l[j] _ T (n := n) (by rw [addS_length]; exact hs)] at hp
  rw [getD_addS _ _ (pls_lt _ set T (by omega))]
  by_cases hjm2 : j = m
  · subst hjm2
    rw [pls_eq l[j] set T hs]
    simp [hp]
  · rw [hg j hj (by omega) p (by rw [pls_eq l[j] set T hs]; exact hp)]
    simp
end
/-- In a filter that can be made: the law answers true. -/
theorem never_ok (a0 a1 : Int) (l : List ByteArray) (hl : ∀ s ∈ l, s.size < top) (hv : 8 ≤ a0 ∧ a0 ≤ 65536 ∧ 1 ≤ a1 ∧ a1 ≤ 8) : cellaretlaw7_BloomNever.f 300 a0 a1 l = some true := by
 obtain ⟨K, hK⟩ : ∃ K : Nat, K = 300 := ⟨_, rfl⟩
 rw [← hK]
 unfold cellaretlaw7_BloomNever.f
 obtain ⟨k, rfl⟩ : ∃ q, K = q + 1 := ⟨K - 1, by omega⟩
 rw [awake_ok k]
 rw [Option.bind_some]
 rw [if_pos rfl]
 unfold bloom_New.f
 rw [if_pos hv]
 rw [Option.bind_some]
 rw [if_pos rfl]
 show cellaretlaw7_BloomNever.j0 (k + 1) l (decide ((l.length : Int) > 60)) (List.replicate a0.toNat false) a1 = _
 simp only [cellaretlaw7_BloomNever.j0]
 by_cases hlen : (l.length : Int) > 60
 · rw [decide_eq_true hlen, if_pos rfl]
 · rw [decide_eq_false hlen, if_neg (show ¬ (false = true) by decide)]
   exact never_l0 l hl a0.toNat (by omega) a1 (by omega) (by omega) l.length k 0 _ List.length_replicate (fun j _ hj => by omega) (by omega) (by omega)
end Go.Proofs.Ytefalfheeofhhaa.QW
