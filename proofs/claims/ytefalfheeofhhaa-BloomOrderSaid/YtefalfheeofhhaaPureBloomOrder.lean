/- BloomOrder, in plain Lean: in whatever order keys are told, the set is the same. -/
import Derived.Test.YtefalfheeofhhaaQWT
import Derived.Test.YtefalfheeofhhaaQWP
namespace Go.Proofs.Ytefalfheeofhhaa.QW
open Go.RowKit Go.Proofs.YtefalfheeofhhaaW.PrintWords Go.Proofs.YtefalfheeofhhaaW.PrintLast Go.Proofs.YtefalfheeofhhaaW.PrintMore
open BloomFacts (places place wrap_succ)
theorem rdOf_natO (l : List ByteArray) (m : Nat) (h : m < l.length) : rdOf ByteArray.empty l (m : Int) = l[m] := by
 simp [rdOf, List.getD_eq_getElem?_getD, h]
theorem order_l1 (xs : List Int) (hx : xs.length ≤ 65536) (d : Nat) : ∀ (k m : Nat), m + d = xs.length → d + 1 ≤ k → cellaretlaw7_BloomOrder.l1 k xs xs (m : Int) = some true := by
 induction d with
 | zero =>
  intro k m hm hk
  obtain ⟨k, rfl⟩ : ∃ q, k = q + 1 := ⟨k - 1, by omega⟩
  simp only [cellaretlaw7_BloomOrder.l1]
  rw [if_neg (by omega)]
 | succ d ih =>
  intro k m hm hk
  obtain ⟨k, rfl⟩ : ∃ q, k = q + 1 := ⟨k - 1, by omega⟩
  simp only [cellaretlaw7_BloomOrder.l1]
  rw [if_pos (by omega), if_pos (by omega), if_pos (by omega)]
  first | rw [if_pos rfl] | rw [if_pos trivial]
  rw [wrap_succ m (by omega)]
  exact ih k (m + 1) (by omega) (by omega)
theorem told_iff (f0 : List Bool) (s : ByteArray) (n : Nat) (T : Int) (hn : 0 < n) (hl : f0.length = n) (p : Nat) : (addS f0 (pls s f0 T)).getD p false = true ↔ p ∈ places s n T.toNat ∨ f0.getD p false = true := by
 rw [getD_addS _ _ (pls_lt s f0 T (by omega)), pls_eq s f0 T hl]
 simp
theorem same_set (f0 g0 : List Bool) (hl : f0.length = g0.length) (h : ∀ p, f0.getD p false = true ↔ g0.getD p false = true) : f0 = g0 := by
 apply List.ext_getElem hl
 intro i h1 h2
 have := h i
 rw [List.getD_eq_getElem?_getD, List.getD_eq_getElem?_getD, List.getElem?_eq_getElem h1, List.getElem?_eq_getElem h2] at this
 simp only [Option.getD_some] at this
 cases ha : f0[i] <;> cases hb : g0[i] <;> simp_all
section
variable (l : List ByteArray) (hl : ∀ s ∈ l, s.size < top) (n : Nat) (hn : 8 ≤ n) (hn2 : n ≤ 65536) (T : Int) (hlen : l.length ≤ 60)
include hl hn hn2 hlen
theorem order_l0 (d : Nat) : ∀ (k m : Nat) (fs gs : List Bool), fs.length = n → gs.length = n →
  (∀ p, fs.getD p false = true ↔ ∃ j, ∃ hj : j < l.length, j < m ∧ p ∈ places l[j] n T.toNat) →
  (∀ p, gs.getD p false = true ↔ ∃ j, ∃ hj : j < l.length, (l.length ≤ m + j ∨ (j = 0 ∧ 0 < m)) ∧ p ∈ places l[j] n T.toNat) →
  m + d = l.length → d + 65540 ≤ k → cellaretlaw7_BloomOrder.l0 k l (m : Int) (fs, gs) T = some true := by
 induction d with
 | zero =>
  intro k m fs gs hf hg hF hG hm hk
  obtain ⟨k, rfl⟩ : ∃ q, k = q + 1 := ⟨k - 1, by omega⟩
  have he : fs = gs := same_set fs gs (by rw [hf, hg]) (fun p => by
   rw [hF, hG]
   constructor
   · rintro ⟨j, hj, _, hp⟩
     exact ⟨j, hj, .inl (by omega), hp⟩
   · rintro ⟨j, hj, _, hp⟩
     exact ⟨j, hj, by omega, hp⟩)
  subst he
  have hb : ((bits fs).map Int.ofNat).length ≤ 65536 := by
   rw [List.length_map, bits_length]
   have := List.count_le_length (a := true) (l := fs)
   omega
  simp only [cellaretlaw7_BloomOrder.l0]
  rw [if_neg (by omega)]
  unfold two_BitsF.f
  rw [Option.bind_some]
  show (two_BitsG.f (fs, fs) T).bind _ = _
  unfold two_BitsG.f
  rw [Option.bind_some]
  show (if (((bits fs).map Int.ofNat).length : Int) = (((bits fs).map Int.ofNat).length : Int) then cellaretlaw7_BloomOrder.l1 k ((bits fs).map Int.ofNat) ((bits fs).map Int.ofNat) 0 else some false) = _
  rw [if_pos rfl]
  exact order_l1 _ hb _ k 0 (Nat.zero_add _) (by omega)
 | succ d ih =>
  intro k m fs gs hf hg hF hG hm hk
  obtain ⟨k, rfl⟩ : ∃ q, k = q + 1 := ⟨k - 1, by omega⟩
  have hm2 : m < l.length := by omega
  have hj : wrap64 (wrap64 ((l.length : Int) - 1) - (m : Int)) = ((l.length - 1 - m : Nat) : Int) := by unfold wrap64; omega
  have hj2 : l.length - 1 - m < l.length := by omega
  have h0 : rdOf ByteArray.empty l 0 = l[0] := rdOf_natO l 0 (by omega)
  obtain ⟨g1, hg1⟩ : ∃ g1, g1 = addS gs (pls l[l.length - 1 - m] gs T) := ⟨_, rfl⟩
  have hgl1 : g1.length = n := by rw [hg1, addS_length]; exact hg
  simp only [cellaretlaw7_BloomOrder.l0]
  rw [if_pos (by omega), if_pos (by omega), rdOf_natO l m hm2, hj, rdOf_natO l _ hj2, h0]
  unfold two_AddF.f
  rw [if_pos (hl _ (List.getElem_mem hm2))]
  rw [Option.bind_some]
  rw [if_pos (by omega), if_pos (by omega)]
  show (two_AddG.f (addS fs (pls l[m] fs T), gs) T l[l.length - 1 - m]).bind _ = _
  unfold two_AddG.f
  rw [if_pos (hl _ (List.getElem_mem hj2))]
  rw [Option.bind_some]
  rw [if_pos (by omega)]
  show (two_AddG.f (addS fs (pls l[m] fs T), addS gs (pls l[l.length - 1 - m] gs T)) T l[0]).bind _ = _
  rw [← hg1]
  unfold two_AddG.f
  rw [if_pos (hl _ (List.getElem_mem (show 0 < l.length by omega)))]
  rw [Option.bind_some]
  show cellaretlaw7_BloomOrder.l0 k l (wrap64 ((m : Int) + 1)) (addS fs (pls l[m] fs T), addS g1 (pls l[0] g1 T)) T = _
  rw [wrap_succ m (by omega)]
  refine ih k (m + 1) _ _ (by rw [addS_length]; exact hf) (by rw [addS_length]; exact hgl1) (fun p => ?_) (fun p => ?_) (by omega) (by omega)
  · rw [told_iff fs l[m] n T (by omega) hf, hF]
    constructor
    · rintro (hp | ⟨j, hjl, hjm, hp⟩)
      · exact ⟨m, hm2, by omega, hp⟩
      · exact ⟨j, hjl, by omega, hp⟩
    · rintro ⟨j, hjl, hjm, hp⟩
      by_cases e : j = m
      · subst e; exact .inl hp
      · exact .inr ⟨j, hjl, by omega, hp⟩
  · rw [told_iff g1 l[0] n T (by omega) hgl1, hg1, told_iff gs l[l.length - 1 - m] n T (by omega) hg, hG]
    constructor
    · rintro (hp | hp | ⟨j, hjl, hjm, hp⟩)
      · exact ⟨0, by omega, .inr ⟨rfl, by omega⟩, hp⟩
      · exact ⟨l.length - 1 - m, hj2, .inl (by omega), hp⟩
      · exact ⟨j, hjl, by omega, hp⟩
    · rintro ⟨j, hjl, hjm, hp⟩
      by_cases e0 : j = 0
      · subst e0; exact .inl hp
      · by_cases e : j = l.length - 1 - m
        · subst e; exact .inr (.inl hp)
        · exact .inr (.inr ⟨j, hjl, .inl (by omega), hp⟩)
end
theorem order_ok (a0 a1 : Int) (l : List ByteArray) (hl : ∀ s ∈ l, s.size < top) (hv : 8 ≤ a0 ∧ a0 ≤ 65536 ∧ 1 ≤ a1 ∧ a1 ≤ 8) : cellaretlaw7_BloomOrder.f 70000 a0 a1 l = some true := by
 obtain ⟨K, hK⟩ : ∃ K : Nat, K = 70000 := ⟨_, rfl⟩
 rw [← hK]
 unfold cellaretlaw7_BloomOrder.f
 obtain ⟨k, rfl⟩ : ∃ q, K = q + 1 := ⟨K - 1, by omega⟩
 rw [awake_ok k]
 rw [Option.bind_some]
 rw [if_pos rfl]
 have hnew : two_New.f a0 a1 = some ((List.replicate a0.toNat false, List.replicate a0.toNat false), a1) := by
  unfold two_New.f bloom_New.f
  rw [if_pos hv]
  rfl
 rw [hnew]
 rw [Option.bind_some]
 rw [if_pos rfl]
 show cellaretlaw7_BloomOrder.j0 (k + 1) l 0 0 (decide ((l.length : Int) > 60)) (List.replicate a0.toNat false, List.replicate a0.toNat false) a1 = _
 simp only [cellaretlaw7_BloomOrder.j0]
 by_cases hlen : (l.length : Int) > 60
 · rw [decide_eq_true hlen, if_pos rfl]
   rfl
 · rw [decide_eq_false hlen, if_neg (show ¬ (false = true) by decide)]
   refine order_l0 l hl a0.toNat (by omega) (by omega) a1 (by omega) l.length k 0 _ _ List.length_replicate List.length_replicate (fun p => ?_) (fun p => ?_) (by omega) (by omega)
   · rw [getD_replicate]
     constructor
     · intro h; cases h
     · rintro ⟨j, hj, hj2, _⟩; omega
   · rw [getD_replicate]
     constructor
     · intro h; cases h
     · rintro ⟨j, hj, hj2, _⟩; omega
end Go.Proofs.Ytefalfheeofhhaa.QW
