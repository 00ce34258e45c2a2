/- The law SumZeros on numbers and lists: bytes 0 behind a key multiply its hash by the prime; they go on with a sum as any bytes do. -/
import Derived.Test.YtefalfheeofhhaaQSx4
import Derived.Test.YtefalfheeofhhaaQSFacts
namespace Go.Proofs.Ytefalfheeofhhaa.Pure
open Go.RowKit Go.Proofs.Ytefalfheeofhhaa.QS Go.Proofs.YtefalfheeofhhaaW.PrintWords Go.Proofs.YtefalfheeofhhaaW.PrintLast Go.Proofs.YtefalfheeofhhaaW.PrintMore
open SumFacts
namespace SumZerosParts
theorem bs_append (a b : ByteArray) : bs (a ++ b) = bs a ++ bs b := by simp [bs]
theorem bs_strOfNums {xs : List Int} (h : Wf xs) : bs (strOfNums xs) = ns xs := by
  rw [bs, strOfNums_data, List.map_map]
  apply List.map_congr_left
  intro x hx
  have := h x hx
  simp only [Function.comp_apply, UInt8.toNat_ofNat']
  omega
theorem ns_bytesOf (s : ByteArray) : ns (bytesOf s) = bs s := by
  simp [ns, bs, bytesOf, Function.comp_def]
theorem wf_bytesOf (s : ByteArray) : Wf (bytesOf s) := by
  intro x hx
  obtain ⟨b, _, rfl⟩ := List.mem_map.1 hx
  have := b.toNat_lt
  omega
theorem more_parts (a b : List Nat) : more (more 0 a) b = more 0 (a ++ b) := by
  unfold more
  rw [← Nat.xor_assoc, Nat.xor_self, Nat.zero_xor, Crc.crc_append]
theorem zeros_succ (H m : Nat) : Crc.fold H (List.replicate (m + 1) 0) = Crc.hstep (Crc.fold H (List.replicate m 0)) 0 := by
  rw [List.replicate_succ', Crc.fold_append, Crc.fold_cons, Crc.fold_nil]
/-- The loop and what stands behind it. -/
theorem loop (s : ByteArray) (n : Nat) (hs : s.size ≤ 500) (hn : n ≤ 200) (K : Nat) (hK : 10000 ≤ K) (d : Nat) : ∀ (m : Nat), m + d = n →
    cellaretlaw1_SumZeros.l0 (K + d + 1) s n (Crc.fold (SumFacts.hash (bs s)) (List.replicate m 0) : Int) (m : Int) = some true := by
  induction d with
  | zero =>
    intro m hm
    obtain rfl : m = n := by omega
    simp only [cellaretlaw1_SumZeros.l0]
    have hz : Wf (List.replicate ((m : Int)).toNat 0) := fun x hx => by have := List.eq_of_mem_replicate hx; omega
    have hz2 : ns (List.replicate ((m : Int)).toNat 0) = List.replicate m 0 := by simp [ns]
    have sz : (s ++ strOfNums (List.replicate ((m : Int)).toNat 0)).size = s.size + m := by rw [ByteArray.size_append, strOfNums_size]; simp
    have ez : bs (s ++ strOfNums (List.replicate ((m : Int)).toNat 0)) = bs s ++ List.replicate m 0 := by rw [bs_append, bs_strOfNums hz, hz2]
    rw [if_neg (by omega), if_pos (by omega), if_pos (by omega)]
    simp only [Option.bind_some]
    rw [if_pos (by rw [strOfNums_size]; simp; omega), hash_ok _ (by omega) (by omega)]
    simp only [Option.bind_some]
    have eh : SumFacts.hash (bs (s ++ strOfNums (List.replicate ((m : Int)).toNat 0))) = Crc.fold (SumFacts.hash (bs s)) (List.replicate m 0) := by
      rw [ez]
      unfold SumFacts.hash
      rw [Crc.fold_append]
    rw [if_pos (by rw [eh]), if_pos (by omega)]
    have lb : ∀ t : ByteArray, (bytesOf t).length = t.size := bytesOf_length
    rw [crc_ok (wf_bytesOf _) (by rw [lb]; omega) (by rw [lb]; omega)]
    simp only [Option.bind_some]
    rw [if_pos (by omega), crc_ok (wf_bytesOf s) (by rw [lb]; omega) (by rw [lb]; omega)]
    simp only [Option.bind_some]
    rw [more_ok hz (by simp; omega) (more_lt (by decide) (by rw [ns_bytesOf]; exact bs_lt s)) (by simp; omega)]
    simp only [Option.bind_some]
    rw [ns_bytesOf, ns_bytesOf, more_parts, ez, hz2]
    simp
  | succ d ih =>
    intro m hm
    have ih' := ih (m + 1) (by omega)
    show cellaretlaw1_SumZeros.l0 (K + d + 1 + 1) _ _ _ _ = _
    generalize K + d + 1 = q at ih' ⊢
    simp only [cellaretlaw1_SumZeros.l0]
    rw [if_pos (by omega), wrap_succ m (by omega), Crc.hstep_mul, ← zeros_succ]
    exact ih'
end SumZerosParts
open SumZerosParts

theorem SumZeros : cellaretlaw1_SumZeros.Pure := by
  intro s n hs hn
  have bn := bounds_i64 hn
  refine ⟨10000 + n.toNat + 2, ?_⟩
  generalize hk : 10000 + n.toNat + 1 = k
  unfold cellaretlaw1_SumZeros.f
  simp only [cellaretlaw1_awake.f, Option.bind_some, if_true]
  rw [show 10000 + n.toNat + 2 = k + 1 from by omega]
  by_cases h5 : (s.size : Int) > 500
  · rw [if_pos h5]; simp only [cellaretlaw1_SumZeros.j0]; rfl
  rw [if_neg h5]
  by_cases h1 : n < 1
  · rw [if_pos h1]; simp only [cellaretlaw1_SumZeros.j0]; rfl
  rw [if_neg h1]
  simp only [cellaretlaw1_SumZeros.j0]
  by_cases h2 : n > 200
  · rw [if_pos (decide_eq_true h2)]
  rw [if_neg (by simpa using h2)]
  obtain ⟨m, rfl⟩ := Int.eq_ofNat_of_zero_le (show 0 ≤ n by omega)
  rw [hash_ok s (by omega) (by omega)]
  simp only [Option.bind_some]
  rw [Int.toNat_natCast] at hk
  rw [← hk]
  exact loop s m (by omega) (by omega) 10000 (Nat.le_refl _) m 0 (by omega)
end Go.Proofs.Ytefalfheeofhhaa.Pure
