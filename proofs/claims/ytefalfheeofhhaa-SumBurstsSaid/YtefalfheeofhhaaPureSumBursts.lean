/- The law SumBursts on numbers and lists: any change within four bytes one behind the other changes the sum. -/
import Derived.Test.YtefalfheeofhhaaQBurst
import Derived.Test.YtefalfheeofhhaaQSFacts
namespace Go.Proofs.Ytefalfheeofhhaa.Pure
open Go.RowKit Go.Proofs.Ytefalfheeofhhaa.QS Go.Proofs.YtefalfheeofhhaaW.PrintWords Go.Proofs.YtefalfheeofhhaaW.PrintLast Go.Proofs.YtefalfheeofhhaaW.PrintMore
open SumFacts
namespace SumBurstsParts
theorem set_mid (pre : List Int) (x y : Int) (rest : List Int) : (pre ++ x :: rest).set pre.length y = pre ++ y :: rest := by
  rw [List.set_append_right _ _ (Nat.le_refl _), Nat.sub_self]
  rfl
theorem rd_mid (pre : List Int) (x : Int) (rest : List Int) : rd (pre ++ x :: rest) (pre.length : Int) = x := by
  simp [rd]
theorem bstep4 (l L pre rest : List Int) (x : Nat) (y : Nat) (a i : Nat) (hx : x < 256) (hy : y < 256) (hL : rd L (i : Int) = (y : Int)) (hp : pre.length = a + i) (hi : i < 4) (hn : (pre ++ (x : Int) :: rest).length ≤ 3000) (k : Nat) :
    cellaretlaw1_SumBursts.l0 (k + 1) l (a : Int) L (pre ++ (x : Int) :: rest) (i : Int) = cellaretlaw1_SumBursts.l0 k l (a : Int) L ((pre ++ [((x ^^^ y : Nat) : Int)]) ++ rest) ((i + 1 : Nat) : Int) := by
  have hl : pre.length < (pre ++ (x : Int) :: rest).length := by simp
  have hw : wrap64 ((a : Int) + (i : Int)) = (pre.length : Int) := by unfold wrap64; omega
  simp only [cellaretlaw1_SumBursts.l0]
  rw [if_pos (by omega), hw, if_pos (by omega), if_pos (by omega), if_pos (by omega), rd_mid, hL, Int.toNat_natCast, set_mid, Crc.xor_u8 x y hx hy, wrap_succ i (by omega)]
  simp
theorem crc_ne {s : Nat} {x0 x1 x2 x3 y0 y1 y2 y3 : Nat} (hy0 : y0 < 256) (hy1 : y1 < 256) (hy2 : y2 < 256) (hy3 : y3 < 256) (hne : ¬ (y0 = 0 ∧ y1 = 0 ∧ y2 = 0 ∧ y3 = 0)) (post : List Nat) :
    Crc.crc s ([x0 ^^^ y0, x1 ^^^ y1, x2 ^^^ y2, x3 ^^^ y3] ++ post) ≠ Crc.crc s ([x0, x1, x2, x3] ++ post) := by
  have h := Crc.crc_xor ([x0, x1, x2, x3] ++ post) ([y0, y1, y2, y3] ++ List.replicate post.length 0) s 0 (by simp)
  have hz : List.zipWith (· ^^^ ·) ([x0, x1, x2, x3] ++ post) ([y0, y1, y2, y3] ++ List.replicate post.length 0) = [x0 ^^^ y0, x1 ^^^ y1, x2 ^^^ y2, x3 ^^^ y3] ++ post := by
    rw [List.zipWith_append (by simp)]
    congr 1
    apply List.ext_getElem
    · simp
    · intro i h1 h2
      simp
  rw [hz, Nat.xor_zero] at h
  rw [h]
  intro e
  have e2 : Crc.crc 0 ([y0, y1, y2, y3] ++ List.replicate post.length 0) = 0 := by
    have e3 := congrArg (fun t => Crc.crc s ([x0, x1, x2, x3] ++ post) ^^^ t) e
    simpa [← Nat.xor_assoc] using e3
  rw [Crc.crc_append] at e2
  refine Crc.crc_behind (Crc.crc_lt (by decide) ?_) (fun h0 => hne (Crc.burst_zero hy0 hy1 hy2 hy3 h0)) post.length e2
  intro b hb
  simp only [List.mem_cons, List.not_mem_nil, or_false] at hb
  omega
end SumBurstsParts
open SumBurstsParts
theorem SumBursts (l : List Int) (at_ b0 b1 b2 b3 : Int) (_ : l.length ≤ maxLen) (hw : ∀ x ∈ l, (Lit.int .u8 x).wf = true) (hat : (Lit.int .i64 at_).wf = true) (w0 : (Lit.int .u8 b0).wf = true) (w1 : (Lit.int .u8 b1).wf = true) (w2 : (Lit.int .u8 b2).wf = true) (w3 : (Lit.int .u8 b3).wf = true) :
    ∃ k, cellaretlaw1_SumBursts.f k l at_ b0 b1 b2 b3 = some true := by
  have hW := wf_of hw
  have ba := bounds_i64 hat
  have e0 := bounds_u8 w0
  have e1 := bounds_u8 w1
  have e2 := bounds_u8 w2
  have e3 := bounds_u8 w3
  obtain ⟨n, hn⟩ : ∃ n, n = 40000 := ⟨_, rfl⟩
  refine ⟨n + 6, ?_⟩
  unfold cellaretlaw1_SumBursts.f
  simp only [cellaretlaw1_awake.f, Option.bind_some, if_true]
  have j0t : ∀ L, cellaretlaw1_SumBursts.j0 (n + 6) l at_ L true = some true := fun L => by
    simp only [cellaretlaw1_SumBursts.j0]
    rw [if_pos trivial]
  by_cases h1 : (l.length : Int) > 3000
  · rw [if_pos h1]; exact j0t _
  rw [if_neg h1]
  by_cases h2 : at_ < 0
  · rw [if_pos h2]; exact j0t _
  rw [if_neg h2]
  have hw64 : wrap64 ((l.length : Int) - 4) = (l.length : Int) - 4 := by unfold wrap64; omega
  rw [hw64]
  by_cases h3 : at_ > (l.length : Int) - 4
  · rw [if_pos h3]; exact j0t _
  rw [if_neg h3]
  by_cases h4 : (b0 == 0 && (b1 == 0 && (b2 == 0 && (b3 == 0)))) = true
  · rw [h4]; exact j0t _
  have h4' : (b0 == 0 && (b1 == 0 && (b2 == 0 && (b3 == 0)))) = false := by simpa using h4
  rw [h4']
  obtain ⟨a, rfl⟩ : ∃ a : Nat, at_ = a := ⟨at_.toNat, by omega⟩
  obtain ⟨y0, rfl⟩ : ∃ a : Nat, b0 = a := ⟨b0.toNat, by omega⟩
  obtain ⟨y1, rfl⟩ : ∃ a : Nat, b1 = a := ⟨b1.toNat, by omega⟩
  obtain ⟨y2, rfl⟩ : ∃ a : Nat, b2 = a := ⟨b2.toNat, by omega⟩
  obtain ⟨y3, rfl⟩ : ∃ a : Nat, b3 = a := ⟨b3.toNat, by omega⟩
  have hne : ¬ (y0 = 0 ∧ y1 = 0 ∧ y2 = 0 ∧ y3 = 0) := fun h => by
    obtain ⟨r0, r1, r2, r3⟩ := h
    subst r0; subst r1; subst r2; subst r3
    exact absurd h4' (by decide)
  obtain ⟨pre, x0, x1, x2, x3, post, hl, hpre⟩ : ∃ (pre : List Int) (x0 x1 x2 x3 : Int) (post : List Int), l = pre ++ x0 :: x1 :: x2 :: x3 :: post ∧ pre.length = a := by
    refine ⟨l.take a, l[a]'(by omega), l[a + 1]'(by omega), l[a + 2]'(by omega), l[a + 3]'(by omega), l.drop (a + 4), ?_, by simp; omega⟩
    rw [← List.drop_eq_getElem_cons, ← List.drop_eq_getElem_cons, ← List.drop_eq_getElem_cons, ← List.drop_eq_getElem_cons, List.take_append_drop]
  have q0 := hW x0 (by rw [hl]; simp)
  have q1 := hW x1 (by rw [hl]; simp)
  have q2 := hW x2 (by rw [hl]; simp)
  have q3 := hW x3 (by rw [hl]; simp)
  obtain ⟨v0, rfl⟩ : ∃ a : Nat, x0 = a := ⟨x0.toNat, by omega⟩
  obtain ⟨v1, rfl⟩ : ∃ a : Nat, x1 = a := ⟨x1.toNat, by omega⟩
  obtain ⟨v2, rfl⟩ : ∃ a : Nat, x2 = a := ⟨x2.toNat, by omega⟩
  obtain ⟨v3, rfl⟩ : ∃ a : Nat, x3 = a := ⟨x3.toNat, by omega⟩
  simp only [cellaretlaw1_SumBursts.j0]
  rw [if_neg (by decide), Option.bind_some, List.nil_append, List.length_nil, if_pos (by omega)]
  have hlen : l.length = pre.length + (post.length + 4) := by rw [hl]; simp
  have s0 := bstep4 l [(y0 : Int), y1, y2, y3] pre (v1 :: v2 :: v3 :: post) v0 y0 a 0 (by omega) (by omega) rfl (by omega) (by omega) (by simp; omega) (n + 4)
  have s1 := bstep4 l [(y0 : Int), y1, y2, y3] (pre ++ [((v0 ^^^ y0 : Nat) : Int)]) (v2 :: v3 :: post) v1 y1 a 1 (by omega) (by omega) rfl (by simp; omega) (by omega) (by simp; omega) (n + 3)
  have s2 := bstep4 l [(y0 : Int), y1, y2, y3] (pre ++ [((v0 ^^^ y0 : Nat) : Int)] ++ [((v1 ^^^ y1 : Nat) : Int)]) (v3 :: post) v2 y2 a 2 (by omega) (by omega) rfl (by simp; omega) (by omega) (by simp; omega) (n + 2)
  have s3 := bstep4 l [(y0 : Int), y1, y2, y3] (pre ++ [((v0 ^^^ y0 : Nat) : Int)] ++ [((v1 ^^^ y1 : Nat) : Int)] ++ [((v2 ^^^ y2 : Nat) : Int)]) post v3 y3 a 3 (by omega) (by omega) rfl (by simp; omega) (by omega) (by simp; omega) (n + 1)
  have hall := s0.trans (s1.trans (s2.trans s3))
  rw [← hl] at hall
  rw [show (0 : Int) = ((0 : Nat) : Int) from rfl, hall]
  generalize hc : pre ++ [((v0 ^^^ y0 : Nat) : Int)] ++ [((v1 ^^^ y1 : Nat) : Int)] ++ [((v2 ^^^ y2 : Nat) : Int)] ++ [((v3 ^^^ y3 : Nat) : Int)] ++ post = c
  have hcl : c.length = l.length := by rw [← hc, hlen]; simp
  have u0 : v0 ^^^ y0 < 256 := Nat.xor_lt_two_pow (n := 8) (by omega) (by omega)
  have u1 : v1 ^^^ y1 < 256 := Nat.xor_lt_two_pow (n := 8) (by omega) (by omega)
  have u2 : v2 ^^^ y2 < 256 := Nat.xor_lt_two_pow (n := 8) (by omega) (by omega)
  have u3 : v3 ^^^ y3 < 256 := Nat.xor_lt_two_pow (n := 8) (by omega) (by omega)
  have hcW : Wf c := fun x hx => by
    rw [← hc] at hx
    simp only [List.mem_append, List.mem_singleton] at hx
    rcases hx with ((((h | h) | h) | h) | h) | h
    · exact hW x (by rw [hl]; simp [h])
    · omega
    · omega
    · omega
    · omega
    · exact hW x (by rw [hl]; simp [h])
  have nc : ns c = ns pre ++ ([v0 ^^^ y0, v1 ^^^ y1, v2 ^^^ y2, v3 ^^^ y3] ++ ns post) := by rw [← hc]; simp [ns]
  have nl : ns l = ns pre ++ ([v0, v1, v2, v3] ++ ns post) := by rw [hl]; simp [ns]
  simp only [cellaretlaw1_SumBursts.l0]
  rw [if_neg (by omega), crc_ok hcW (by omega) (by omega), Option.bind_some, crc_ok hW (by omega) (by omega), Option.bind_some]
  have hd : more 0 (ns c) ≠ more 0 (ns l) := fun h => by
    unfold more at h
    have h5 : Crc.crc (4294967295 ^^^ 0) (ns c) = Crc.crc (4294967295 ^^^ 0) (ns l) := by
      have := congrArg (fun t => 4294967295 ^^^ t) h
      simpa [← Nat.xor_assoc] using this
    rw [nc, nl, Crc.crc_append _ (ns pre), Crc.crc_append _ (ns pre)] at h5
    exact crc_ne (by omega) (by omega) (by omega) (by omega) hne (ns post) h5
  congr 1
  simp only [bne_iff_ne, ne_eq]
  omega
end Go.Proofs.Ytefalfheeofhhaa.Pure
