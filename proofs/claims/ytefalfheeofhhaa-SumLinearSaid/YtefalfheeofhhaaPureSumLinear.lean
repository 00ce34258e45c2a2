/- The law SumLinear on numbers and lists: the sums of two texts of one length differ as that of their difference does from that of noughts. -/
import Derived.Test.YtefalfheeofhhaaQSx3
import Derived.Test.YtefalfheeofhhaaQSFacts
namespace Go.Proofs.Ytefalfheeofhhaa.Pure
open Go.RowKit Go.Proofs.Ytefalfheeofhhaa.QS Go.Proofs.YtefalfheeofhhaaW.PrintWords Go.Proofs.YtefalfheeofhhaaW.PrintLast Go.Proofs.YtefalfheeofhhaaW.PrintMore
open SumFacts
namespace SumLinearParts
def xors (a b : List Int) : List Int := List.zipWith (fun x y => ((x.toNat ^^^ y.toNat : Nat) : Int)) a b
theorem ns_xors (a b : List Int) : ns (xors a b) = List.zipWith (· ^^^ ·) (ns a) (ns b) := by
  simp [ns, xors, List.map_zipWith, List.zipWith_map]
theorem wf_xors {a b : List Int} (ha : Wf a) (hb : Wf b) : Wf (xors a b) := by
  intro x hx
  obtain ⟨i, hi, rfl⟩ := List.mem_iff_getElem.1 hx
  simp only [xors, List.getElem_zipWith]
  simp only [xors, List.length_zipWith] at hi
  have h1 := ha _ (List.getElem_mem (show i < a.length by omega))
  have h2 := hb _ (List.getElem_mem (show i < b.length by omega))
  have : (a[i]'(by omega)).toNat ^^^ (b[i]'(by omega)).toNat < 2 ^ 8 := Nat.xor_lt_two_pow (by omega) (by omega)
  omega
theorem xors_snoc (a b : List Int) (m : Nat) (h : m < a.length) (h2 : m < b.length) : xors (a.take (m + 1)) (b.take (m + 1)) = xors (a.take m) (b.take m) ++ [((a[m].toNat ^^^ b[m].toNat : Nat) : Int)] := by
  unfold xors
  rw [List.take_succ_eq_append_getElem h, List.take_succ_eq_append_getElem h2, List.zipWith_append (by simp; omega)]
  rfl
theorem loop {a b : List Int} (ha : Wf a) (hb : Wf b) (hl : a.length = b.length) (hn : a.length ≤ 3000) (K : Nat) (hK : 10 * a.length + 1 ≤ K) (d : Nat) : ∀ (m : Nat), m + d = a.length → cellaretlaw1_SumLinear.l0 (K + d + 1) a b (xors (a.take m) (b.take m)) (m : Int) = some true := by
  induction d with
  | zero =>
    intro m hm
    simp only [cellaretlaw1_SumLinear.l0]
    rw [if_neg (by omega), List.take_of_length_le (by omega), List.take_of_length_le (by omega)]
    have hx := wf_xors ha hb
    have hxl : (xors a b).length = a.length := by simp [xors, hl]
    rw [crc_ok ha (by omega) (by omega)]; simp only [Option.bind_some]
    rw [crc_ok hb (by omega) (by omega)]; simp only [Option.bind_some]
    rw [crc_ok hx (by omega) (by omega)]; simp only [Option.bind_some]
    rw [if_pos (by omega), if_pos (by omega)]
    have hz : Wf (List.replicate ((a.length : Int)).toNat 0) := fun x hx => by have := List.eq_of_mem_replicate hx; omega
    rw [crc_ok hz (by simp; omega) (by simp; omega)]; simp only [Option.bind_some]
    have la := more_lt (c := 0) (by decide) (ns_lt ha)
    have lb := more_lt (c := 0) (by decide) (ns_lt hb)
    have lx := more_lt (c := 0) (by decide) (ns_lt hx)
    have lz := more_lt (c := 0) (by decide) (ns_lt hz)
    rw [Crc.xor_u32 _ _ la lb, Crc.xor_u32 _ _ lx lz]
    have e : more 0 (ns a) ^^^ more 0 (ns b) = more 0 (ns (xors a b)) ^^^ more 0 (ns (List.replicate ((a.length : Int)).toNat 0)) := by
      have hab : (ns a).length = (ns b).length := by simpa using hl
      have hz2 : ns (List.replicate ((a.length : Int)).toNat 0) = List.replicate a.length 0 := by simp [ns]
      rw [hz2, ns_xors]
      unfold more
      have h1 := Crc.crc_xor (ns a) (ns b) (4294967295 ^^^ 0) (4294967295 ^^^ 0) hab
      have h2 := Crc.crc_xor (List.zipWith (· ^^^ ·) (ns a) (ns b)) (List.replicate a.length 0) (4294967295 ^^^ 0) (4294967295 ^^^ 0) (by simp [hl])
      have h3 : List.zipWith (· ^^^ ·) (List.zipWith (· ^^^ ·) (ns a) (ns b)) (List.replicate a.length 0) = List.zipWith (· ^^^ ·) (ns a) (ns b) := by
        apply List.ext_getElem
        · simp [hl]
        · intro i h1 h2
          simp
      rw [h3] at h2
      have can : ∀ x y z : Nat, (z ^^^ x) ^^^ (z ^^^ y) = x ^^^ y := fun x y z => by
        rw [Nat.xor_assoc, ← Nat.xor_assoc x, Nat.xor_comm x z, Nat.xor_assoc z, ← Nat.xor_assoc z, Nat.xor_self, Nat.zero_xor]
      rw [can, can, ← h1, ← h2]
    rw [e]
    simp
  | succ d ih =>
    intro m hm
    show cellaretlaw1_SumLinear.l0 (K + d + 1 + 1) _ _ _ _ = _
    simp only [cellaretlaw1_SumLinear.l0]
    have hlen : (xors (a.take m) (b.take m)).length = m := by simp [xors]; omega
    rw [if_pos (by omega), if_pos (by omega), if_pos (by omega), if_pos (by omega), wrap_succ m (by omega)]
    have h1 := ha _ (List.getElem_mem (show m < a.length by omega))
    have h2 := hb _ (List.getElem_mem (show m < b.length by omega))
    have e1 : rd a m = ((a[m]'(by omega)).toNat : Int) := by simp [rd, List.getD_eq_getElem?_getD, show m < a.length by omega]; omega
    have e2 : rd b m = ((b[m]'(by omega)).toNat : Int) := by simp [rd, List.getD_eq_getElem?_getD, show m < b.length by omega]; omega
    rw [e1, e2, Crc.xor_u8 _ _ (by omega) (by omega), ← xors_snoc a b m (by omega) (by omega)]
    exact ih (m + 1) (by omega)
end SumLinearParts
open SumLinearParts

theorem SumLinear : cellaretlaw1_SumLinear.Pure := by
  intro a b h1 h2 hwa h3 h4 hwb
  have ha := wf_of hwa
  have hb := wf_of hwb
  refine ⟨10 * a.length + 1 + a.length + 2, ?_⟩
  unfold cellaretlaw1_SumLinear.f
  simp only [cellaretlaw1_awake.f, Option.bind_some, if_true]
  by_cases hl : (a.length : Int) = (b.length : Int)
  · rw [if_pos hl]
    simp only [cellaretlaw1_SumLinear.j0]
    by_cases hn : (a.length : Int) > 3000
    · rw [if_pos (decide_eq_true hn)]
    · rw [if_neg (by simpa using hn)]
      exact loop ha hb (by omega) (by omega) (10 * a.length + 1) (Nat.le_refl _) a.length 0 (by omega)
  · rw [if_neg hl]
    simp only [cellaretlaw1_SumLinear.j0]
    rfl
end Go.Proofs.Ytefalfheeofhhaa.Pure
