/- The law SumOn on numbers and lists: summed in two parts it is the sum of the whole, and a changed bit changes it. -/
import Derived.Test.YtefalfheeofhhaaQSFacts
namespace Go.Proofs.Ytefalfheeofhhaa.Pure
open Go.RowKit Go.Proofs.Ytefalfheeofhhaa.QS Go.Proofs.YtefalfheeofhhaaW.PrintWords Go.Proofs.YtefalfheeofhhaaW.PrintLast Go.Proofs.YtefalfheeofhhaaW.PrintMore
open SumFacts
namespace SumOnParts
/-- One byte that is another one makes another sum. -/
theorem crc_set (l : List Nat) (i x c : Nat) (hi : i < l.length) (hl : ∀ b ∈ l, b < 256) (hx : x < 256) (hne : x ≠ l[i]) : Crc.crc c (l.set i x) ≠ Crc.crc c l := by
  intro h
  have hz := Crc.crc_xor (l.set i x) l c c (by simp)
  rw [h, Nat.xor_self, Nat.xor_self] at hz
  have hlist : List.zipWith (· ^^^ ·) (l.set i x) l = List.replicate i 0 ++ ((x ^^^ l[i]) :: List.replicate (l.length - i - 1) 0) := by
    apply List.ext_getElem
    · simp; omega
    · intro j h1 h2
      simp only [List.getElem_zipWith, List.getElem_set]
      rcases Nat.lt_trichotomy j i with hj | hj | hj
      · rw [if_neg (by omega), List.getElem_append_left (by simpa using hj)]; simp
      · subst hj
        simp
      · rw [if_neg (by omega), List.getElem_append_right (by simp; omega)]
        have hk : j - (List.replicate i 0).length = (j - i - 1) + 1 := by simp; omega
        simp only [hk, List.getElem_cons_succ, List.getElem_replicate, Nat.xor_self]
  rw [hlist, Crc.crc_append, Crc.crc_zeros] at hz
  have hb := hl l[i] (List.getElem_mem hi)
  have hd : x ^^^ l[i] < 256 := Nat.xor_lt_two_pow (n := 8) hx hb
  have hlt : Crc.byteStep 0 (x ^^^ l[i]) < 2 ^ 32 := Crc.byteStep_lt (by decide) hd
  refine Crc.crc_behind hlt (fun e => hne ?_) _ hz
  exact Crc.xor_eq_zero (Crc.byteStep_zero (by decide) hd e).symm
theorem more_set {l : List Nat} {i x : Nat} (hi : i < l.length) (hl : ∀ b ∈ l, b < 256) (hx : x < 256) (hne : x ≠ l[i]) : more 0 (l.set i x) ≠ more 0 l := by
  intro h
  exact crc_set l i x _ hi hl hx hne (Crc.xor_left_inj h)
theorem more_parts (a b : List Nat) : more (more 0 a) b = more 0 (a ++ b) := by
  unfold more
  rw [← Nat.xor_assoc, Nat.xor_self, Nat.zero_xor, Crc.crc_append]
theorem ns_set (l : List Int) (i : Nat) (x : Int) : ns (l.set i x) = (ns l).set i x.toNat := by simp [ns, List.map_set]
end SumOnParts
open SumOnParts

theorem SumOn : cellaretlaw1_SumOn.Pure := by
  intro l a1 a2 h1 h2 hw hi1 hi2
  have hW := wf_of hw
  have b1 := bounds_i64 hi1
  have b2 := bounds_i64 hi2
  refine ⟨10 * l.length + 12, ?_⟩
  obtain ⟨k, hk⟩ : ∃ k, 10 * l.length + 12 = k + 2 := ⟨_, rfl⟩
  rw [hk]
  unfold cellaretlaw1_SumOn.f
  simp only [cellaretlaw1_awake.f, Option.bind_some, if_true]
  by_cases hlen : (l.length : Int) > 5000
  · rw [if_pos hlen]; simp only [cellaretlaw1_SumOn.j0]; rfl
  rw [if_neg hlen]
  by_cases hneg : a1 < 0
  · rw [if_pos hneg]; simp only [cellaretlaw1_SumOn.j0]; rfl
  rw [if_neg hneg]
  simp only [cellaretlaw1_SumOn.j0]
  by_cases hgt : a1 > (l.length : Int)
  · rw [if_pos (decide_eq_true hgt)]
  obtain ⟨m, rfl⟩ := Int.eq_ofNat_of_zero_le (show 0 ≤ a1 by omega)
  have hm : m ≤ l.length := by omega
  have wt : Wf (l.take m) := fun x hx => hW x (List.mem_of_mem_take hx)
  have wd : Wf (l.drop m) := fun x hx => hW x (List.mem_of_mem_drop hx)
  rw [if_neg (by simpa using hgt), if_pos (by omega), if_pos (by omega)]
  simp only [Int.toNat_natCast]
  rw [crc_ok wt (by simp; omega) (by simp; omega)]
  simp only [Option.bind_some]
  rw [more_ok wd (by simp; omega) (more_lt (by decide) (ns_lt wt)) (by simp; omega)]
  simp only [Option.bind_some]
  rw [crc_ok hW (by omega) (by omega)]
  simp only [Option.bind_some]
  have e : more (more 0 (ns (l.take m))) (ns (l.drop m)) = more 0 (ns l) := by
    rw [more_parts]
    congr 1
    rw [← List.map_append, List.take_append_drop]
  rw [e, if_pos rfl]
  by_cases hn2 : a2 < 0
  · rw [if_pos hn2]; simp only [cellaretlaw1_SumOn.j1]; rfl
  rw [if_neg hn2]
  simp only [cellaretlaw1_SumOn.j1]
  have hw8 : wrap64 (8 * (l.length : Int)) = 8 * (l.length : Int) := by unfold wrap64; omega
  rw [hw8]
  by_cases hge : a2 ≥ 8 * (l.length : Int)
  · rw [if_pos (decide_eq_true hge)]
  rw [if_neg (by simpa using hge)]
  simp only [Option.bind_some, List.nil_append, List.length_nil]
  rw [if_pos (by omega)]
  obtain ⟨t, rfl⟩ := Int.eq_ofNat_of_zero_le (show 0 ≤ a2 by omega)
  have hq : wrap64 (Int.tdiv (t : Int) 8) = ((t / 8 : Nat) : Int) := by
    rw [Int.tdiv_eq_ediv_of_nonneg (by omega)]; unfold wrap64; omega
  have hr : IntKind.u64.wrap (Int.tmod (t : Int) 8) = ((t % 8 : Nat) : Int) := by
    rw [Int.tmod_eq_emod_of_nonneg (by omega), Crc.wrap_u64]; omega
  rw [hq, hr, if_pos (by omega), if_pos (by omega), if_pos (by omega)]
  have hi : t / 8 < l.length := by omega
  obtain ⟨b, hb, hlt, hdr⟩ := rd_nat hW (t / 8) hi
  have hbit : shl .u8 1 ((t % 8 : Nat) : Int) = ((2 ^ (t % 8) : Nat) : Int) := by
    have : t % 8 < 8 := Nat.mod_lt _ (by decide)
    generalize t % 8 = r at this ⊢
    match r, this with
    | 0, _ | 1, _ | 2, _ | 3, _ | 4, _ | 5, _ | 6, _ | 7, _ => decide
  have hp : (2 ^ (t % 8) : Nat) < 256 := by
    have : t % 8 < 8 := Nat.mod_lt _ (by decide)
    exact Nat.pow_lt_pow_right (by decide) this
  rw [hb, hbit, Crc.xor_u8 _ _ hlt hp]
  simp only [Int.toNat_natCast]
  have hx : b ^^^ 2 ^ (t % 8) < 256 := Nat.xor_lt_two_pow (n := 8) hlt hp
  have ws : Wf (l.set (t / 8) ((b ^^^ 2 ^ (t % 8) : Nat) : Int)) := fun x hx' => by
    rcases List.mem_or_eq_of_mem_set hx' with h | h
    · exact hW x h
    · subst h; omega
  rw [crc_ok ws (by simp; omega) (by simp; omega)]
  simp only [Option.bind_some]
  rw [ns_set, Int.toNat_natCast]
  have hbl : (ns l)[t / 8]'(by simpa using hi) = b := by
    have := List.drop_eq_getElem_cons (i := t / 8) (l := ns l) (by simpa using hi)
    rw [hdr] at this
    exact (List.cons.inj this).1.symm
  have hne := more_set (l := ns l) (i := t / 8) (x := b ^^^ 2 ^ (t % 8)) (by simpa using hi) (ns_lt hW) hx (by
    rw [hbl]
    intro h
    have h0 : 2 ^ (t % 8) = 0 := Crc.xor_left_inj (a := b) (by rw [h, Nat.xor_zero])
    have := Nat.two_pow_pos (t % 8)
    omega)
  rw [crc_ok hW (by omega) (by omega)]
  simp only [Option.bind_some, Option.some.injEq, bne_iff_ne]
  exact fun h => hne (by exact_mod_cast h)
end Go.Proofs.Ytefalfheeofhhaa.Pure
