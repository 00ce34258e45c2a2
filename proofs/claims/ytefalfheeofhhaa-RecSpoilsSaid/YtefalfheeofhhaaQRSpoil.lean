/- Bytes that are read as an item are, up to its end, its record; and a cut record is none. -/
import Derived.Test.YtefalfheeofhhaaQRItem
namespace Go.Proofs.Ytefalfheeofhhaa.RecFacts
open Go.RowKit Go.Proofs.Ytefalfheeofhhaa.QR Go.Proofs.YtefalfheeofhhaaW.PrintWords Go.Proofs.YtefalfheeofhhaaW.PrintLast Go.Proofs.YtefalfheeofhhaaW.PrintMore
theorem split_take (l : List Nat) (a b : Nat) (h : a ≤ b) : l.take b = l.take a ++ (l.take b).drop a := by
  have := (List.take_append_drop a (l.take b)).symm
  rwa [List.take_take, Nat.min_eq_left h] at this
theorem low_mid {l : List Nat} (hb : ∀ b ∈ l, b < 256) (a b n : Nat) (h1 : b = a + n) (h2 : b ≤ l.length) : low (num ((l.take b).drop a)) n = (l.take b).drop a := by
  have := low_num (lt_mid hb a b)
  rwa [show ((l.take b).drop a).length = n by simp; omega] at this
theorem take_one {l : List Nat} (h : 1 ≤ l.length) : l.take 1 = [kOf l] := by
  match l, h with
  | a :: t, _ => rfl
theorem take_four {l : List Nat} (h : 4 ≤ l.length) (h2 : l.getD 3 0 = 82) : (l.take 4).drop 3 = [82] := by
  match l, h, h2 with
  | a :: b :: c :: d :: t, _, h2 => simpa using h2
theorem put_take {l : List Nat} (hb : ∀ b ∈ l, b < 256) (hh : headOk l = true) (hr : restOk l = true) (hlen : l.length = eOf l) :
    l = putN ((l.take (32 + kOf l)).drop 32) ((l.take (eOf l)).drop (32 + kOf l)) (num ((l.take 8).drop 4)) (num ((l.take 16).drop 8)) (num ((l.take 24).drop 16)) := by
  unfold headOk at hh
  unfold restOk at hr
  simp only [Bool.and_eq_true, decide_eq_true_eq] at hh hr
  obtain ⟨⟨h32, h82⟩, hc1⟩ := hh
  obtain ⟨⟨_, hc2⟩, ⟨_, _⟩, _⟩ := hr
  have hE : eOf l = 32 + kOf l + vOf l := rfl
  have lk : ((l.take (32 + kOf l)).drop 32).length = kOf l := by simp; omega
  have lv : ((l.take (eOf l)).drop (32 + kOf l)).length = vOf l := by simp; omega
  have hkl := kOf_lt hb
  have head : headN ((l.take (32 + kOf l)).drop 32).length ((l.take (eOf l)).drop (32 + kOf l)).length (num ((l.take 8).drop 4)) (num ((l.take 16).drop 8)) (num ((l.take 24).drop 16)) = l.take 24 := by
    rw [lk, lv]
    unfold headN
    have e2 : low (vOf l) 2 = (l.take 3).drop 1 := low_mid hb 1 3 2 rfl (by omega)
    rw [Nat.mod_eq_of_lt hkl, e2, low_mid hb 4 8 4 rfl (by omega), low_mid hb 8 16 8 rfl (by omega), low_mid hb 16 24 8 rfl (by omega), ← take_one (by omega), ← take_four (by omega) h82]
    rw [← split_take l 1 3 (by omega), ← split_take l 3 4 (by omega), ← split_take l 4 8 (by omega), ← split_take l 8 16 (by omega), ← split_take l 16 24 (by omega)]
  have body : (l.take (32 + kOf l)).drop 32 ++ (l.take (eOf l)).drop (32 + kOf l) = (l.take (eOf l)).drop 32 := by
    conv => rhs; rw [split_take l (32 + kOf l) (eOf l) (by omega)]
    rw [List.drop_append_of_le_length (by simp; omega)]
  unfold putN
  rw [head, body, ← hc1, ← hc2, low_mid hb 24 28 4 rfl (by omega), low_mid hb 28 32 4 rfl (by omega)]
  rw [← split_take l 24 28 (by omega), ← split_take l 28 32 (by omega), ← split_take l 32 (eOf l) (by omega), ← hlen, List.take_length]
theorem exp_num {n : Nat} (h : n < 18446744073709551616) : expN (wrap64 (n : Int)) = n := by unfold expN wrap64; omega
/-- What is read as the good item x, and is as long as x's record, is x's record. -/
theorem read_as {x : Item} (_ : x.ok) (hg : x.good = true) {l : List Nat} (hb : ∀ b ∈ l, b < 256) (hlen : l.length = 32 + x.key.size + x.value.size)
    (h1 : (takeN l).1 = x.key) (h2 : (takeN l).2.1 = x.value) (h3 : (takeN l).2.2.1 = x.flags) (h4 : (takeN l).2.2.2.1 = x.exp) (h5 : (takeN l).2.2.2.2.1 = x.ver) : l = x.rec_ := by
  obtain ⟨g1, g2, g3, g4⟩ := Item.sizes hg
  unfold takeN at h1 h2 h3 h4 h5
  by_cases c0 : l.length = 0 ∨ kOf l = 0
  · rw [if_pos c0] at h1
    rw [← h1] at g1
    exact absurd g1 (by decide)
  rw [if_neg c0] at h1 h2 h3 h4 h5
  by_cases c1 : (headOk l && restOk l) = true
  · rw [if_pos c1] at h1 h2 h3 h4 h5
    obtain ⟨hh, hr⟩ := Bool.and_eq_true_iff.1 c1
    have hr' := hr
    unfold restOk at hr'
    simp only [Bool.and_eq_true, decide_eq_true_eq] at hr'
    obtain ⟨⟨hle, _⟩, _⟩ := hr'
    have hE : eOf l = 32 + kOf l + vOf l := rfl
    simp only [okR] at h1 h2 h3 h4 h5
    have k1 : (l.take (32 + kOf l)).drop 32 = bs x.key := by rw [← h1, bs_bytesN (lt_mid hb _ _)]
    have k2 : (l.take (eOf l)).drop (32 + kOf l) = bs x.value := by rw [← h2, bs_bytesN (lt_mid hb _ _)]
    have lk : kOf l = x.key.size := by rw [← bs_length, ← k1]; simp; omega
    have lv : vOf l = x.value.size := by rw [← bs_length, ← k2]; simp; omega
    have he := num_mid_lt hb 8 16 8 (by omega)
    have := put_take hb hh hr (by omega)
    rw [k1, k2] at this
    rw [this]
    unfold Item.rec_
    rw [← h3, ← h4, ← h5, exp_num (by omega), Int.toNat_natCast, Int.toNat_natCast]
  · rw [if_neg c1] at h1
    rw [← h1] at g1
    exact absurd g1 (by decide)
/-- A record that is cut is none. -/
theorem take_cut {x : Item} (hx : x.ok) (hg : x.good = true) {n : Nat} (hn : n < 32 + x.key.size + x.value.size) : (takeN (x.rec_.take n)).2.2.2.2.2.2 ≠ 0 := by
  have hl := Item.rec_length x
  unfold takeN
  split
  · decide
  · split
    · rename_i c0 c1
      exfalso
      obtain ⟨hh, hr⟩ := Bool.and_eq_true_iff.1 c1
      unfold headOk at hh
      unfold restOk at hr
      simp only [Bool.and_eq_true, decide_eq_true_eq] at hh hr
      have h32 := hh.1.1
      have hle := hr.1.1
      rw [List.length_take, hl] at h32 hle
      have ht := Item.take' hx hg
      have n32 : 32 ≤ n := by omega
      have k0 : kOf (x.rec_.take n) = kOf x.rec_ := by
        unfold kOf
        rw [List.getD_eq_getElem?_getD, List.getD_eq_getElem?_getD, List.getElem?_take_of_lt (by omega)]
      have v0 : vOf (x.rec_.take n) = vOf x.rec_ := by
        unfold vOf
        rw [List.take_take, Nat.min_eq_left (by omega)]
      have e0 : eOf (x.rec_.take n) = eOf x.rec_ := by unfold eOf; rw [k0, v0]
      have e1 : eOf x.rec_ = 32 + x.key.size + x.value.size := by
        unfold takeN Item.tells at ht
        obtain ⟨g1, g2, g3, g4⟩ := Item.sizes hg
        split at ht
        · have := congrArg (fun t => t.2.2.2.2.2.2) ht
          simp [noneR] at this
        · split at ht
          · have := congrArg (fun t => t.2.2.2.2.2.1) ht
            simp only [okR] at this
            omega
          · have := congrArg (fun t => t.2.2.2.2.2.2) ht
            simp [formR] at this
      omega
    · decide
end Go.Proofs.Ytefalfheeofhhaa.RecFacts
