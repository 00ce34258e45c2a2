/- The law SumBytes on numbers and lists: two keys that differ in their last byte alone have two hashes; a hash goes byte by byte. -/
import Derived.Test.YtefalfheeofhhaaQSx4
import Derived.Test.YtefalfheeofhhaaQSFacts
namespace Go.Proofs.Ytefalfheeofhhaa.Pure
open Go.RowKit Go.Proofs.Ytefalfheeofhhaa.QS Go.Proofs.YtefalfheeofhhaaW.PrintWords Go.Proofs.YtefalfheeofhhaaW.PrintLast Go.Proofs.YtefalfheeofhhaaW.PrintMore
open SumFacts
namespace SumBytesParts
theorem bs_append (a b : ByteArray) : bs (a ++ b) = bs a ++ bs b := by simp [bs]
theorem bs_strOfNums {xs : List Int} (h : Wf xs) : bs (strOfNums xs) = ns xs := by
  rw [bs, strOfNums_data, List.map_map]
  apply List.map_congr_left
  intro x hx
  have := h x hx
  simp only [Function.comp_apply, UInt8.toNat_ofNat']
  omega
theorem snoc (h x : Nat) : Crc.fold h [x] = Crc.hstep h x := by rw [Crc.fold_cons, Crc.fold_nil]
theorem snoc_ne {h x y : Nat} (hh : h < Crc.M) (hx : x < 256) (hy : y < 256) (hne : x ≠ y) : Crc.fold h [x] ≠ Crc.fold h [y] := by
  intro e
  rw [snoc, snoc] at e
  exact hne (Crc.hstep_inj hh hx hy e)
end SumBytesParts
open SumBytesParts

theorem SumBytes : cellaretlaw1_SumBytes.Pure := by
  intro s x y hs hx hy
  have bx := bounds_u8 hx
  have by_ := bounds_u8 hy
  refine ⟨s.size + 10, ?_⟩
  obtain ⟨k, hk⟩ : ∃ k, s.size + 10 = k + 1 := ⟨_, rfl⟩
  rw [hk]
  unfold cellaretlaw1_SumBytes.f
  simp only [cellaretlaw1_awake.f, Option.bind_some, if_true]
  by_cases hn : (s.size : Int) > 1000
  · rw [if_pos hn]; simp only [cellaretlaw1_SumBytes.j0]; rfl
  rw [if_neg hn]
  simp only [cellaretlaw1_SumBytes.j0]
  by_cases hxy : x = y
  · rw [if_pos (by simpa using hxy)]
  rw [if_neg (by simpa using hxy)]
  simp only [Option.bind_some]
  obtain ⟨p, rfl⟩ := Int.eq_ofNat_of_zero_le (show 0 ≤ x by omega)
  obtain ⟨q, rfl⟩ := Int.eq_ofNat_of_zero_le (show 0 ≤ y by omega)
  have wp : Wf [(p : Int)] := fun z hz => by rw [List.mem_singleton.1 hz]; omega
  have wq : Wf [(q : Int)] := fun z hz => by rw [List.mem_singleton.1 hz]; omega
  have sp : (s ++ strOfNums [(p : Int)]).size = s.size + 1 := by rw [ByteArray.size_append, strOfNums_size]; rfl
  have sq : (s ++ strOfNums [(q : Int)]).size = s.size + 1 := by rw [ByteArray.size_append, strOfNums_size]; rfl
  have ep : bs (s ++ strOfNums [(p : Int)]) = bs s ++ [p] := by rw [bs_append, bs_strOfNums wp]; simp [ns]
  have eq : bs (s ++ strOfNums [(q : Int)]) = bs s ++ [q] := by rw [bs_append, bs_strOfNums wq]; simp [ns]
  rw [if_pos (by rw [strOfNums_size]; simp; omega), if_pos (by rw [strOfNums_size]; simp; omega)]
  rw [hash_ok _ (by omega) (by omega)]; simp only [Option.bind_some]
  rw [hash_ok (s ++ strOfNums [(q : Int)]) (by omega) (by omega)]; simp only [Option.bind_some]
  have lh : Crc.fold 14695981039346656037 (bs s) < Crc.M := Crc.fold_lt (by decide)
  have l2 : Crc.fold 1099511628211 (0 :: bs s) < Crc.M := Crc.fold_lt (by decide)
  have hpq : p ≠ q := by omega
  rw [ep, eq]
  rw [if_neg (by
    unfold SumFacts.hash
    rw [Crc.fold_append, Crc.fold_append]
    exact fun h => snoc_ne lh (by omega) (by omega) hpq (by exact_mod_cast h))]
  rw [second_ok _ (by omega) (by omega)]; simp only [Option.bind_some]
  rw [second_ok (s ++ strOfNums [(q : Int)]) (by omega) (by omega)]; simp only [Option.bind_some]
  rw [ep, eq]
  rw [if_neg (by
    unfold second
    rw [← List.cons_append, ← List.cons_append, Crc.fold_append, Crc.fold_append]
    exact fun h => snoc_ne l2 (by omega) (by omega) hpq (by exact_mod_cast h))]
  rw [hash_ok s (by omega) (by omega)]; simp only [Option.bind_some]
  have e3 : (SumFacts.hash (bs s ++ [p]) : Int) = IntKind.u64.wrap ((Go.bits .xor .u64 (SumFacts.hash (bs s) : Int) (IntKind.u64.wrap (p : Int))) * 1099511628211) := by
    rw [Crc.hstep_go (show SumFacts.hash (bs s) < Crc.M from lh) (by omega)]
    unfold SumFacts.hash
    rw [Crc.fold_append, snoc]
  rw [e3]
  simp
end Go.Proofs.Ytefalfheeofhhaa.Pure
