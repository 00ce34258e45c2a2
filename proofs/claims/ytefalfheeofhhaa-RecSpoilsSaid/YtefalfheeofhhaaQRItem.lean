/- Items of chapter 4, as the laws hand them on: put, and taken again. -/
import Derived.Test.YtefalfheeofhhaaQRPut
import Derived.Test.YtefalfheeofhhaaQRAwake
import Derived.Test.YtefalfheeofhhaaQRx15
namespace Go.Proofs.Ytefalfheeofhhaa.RecFacts
open Go.RowKit Go.Proofs.Ytefalfheeofhhaa.QR Go.Proofs.YtefalfheeofhhaaW.PrintWords Go.Proofs.YtefalfheeofhhaaW.PrintLast Go.Proofs.YtefalfheeofhhaaW.PrintMore
theorem refgood_ok (k v : ByteArray) (f e ver : Int) : cellaretref4_Good.f k v f e ver = some (goodP k v ver) := good_ok k v f e ver
theorem prog_put_bad {key value : ByteArray} {f e ver : Int} (hg : goodP key value ver = false) (k : Nat) : rec_Put.f k key value f e ver = some ([], 1) := by
  unfold rec_Put.f
  rw [good_ok, hg]
  rfl
/-- An item whose numbers are of their kinds. -/
structure Item where
  key : ByteArray
  value : ByteArray
  flags : Int
  exp : Int
  ver : Int
def Item.ok (x : Item) : Prop := (0 ≤ x.flags ∧ x.flags ≤ 4294967295) ∧ (-9223372036854775808 ≤ x.exp ∧ x.exp ≤ 9223372036854775807) ∧ (0 ≤ x.ver ∧ x.ver ≤ 18446744073709551615)
def Item.good (x : Item) : Bool := goodP x.key x.value x.ver
def Item.rec_ (x : Item) : List Nat := putN (bs x.key) (bs x.value) x.flags.toNat (expN x.exp) x.ver.toNat
def Item.tells (x : Item) : TakeR := (x.key, x.value, x.flags, x.exp, x.ver, ((32 + x.key.size + x.value.size : Nat) : Int), 0)
theorem Item.rec_lt (x : Item) : ∀ b ∈ x.rec_, b < 256 := putN_lt (bs_lt _) (bs_lt _) _ _ _
theorem Item.rec_length (x : Item) : x.rec_.length = 32 + x.key.size + x.value.size := by unfold Item.rec_; rw [putN_length, bs_length, bs_length]
theorem Item.sizes {x : Item} (hg : x.good = true) : 1 ≤ x.key.size ∧ x.key.size ≤ 250 ∧ x.value.size ≤ 1024 ∧ 0 < x.ver := by
  unfold Item.good goodP at hg
  simp only [Bool.and_eq_true, decide_eq_true_eq] at hg
  obtain ⟨⟨⟨g1, g2⟩, g3⟩, g4⟩ := hg
  exact ⟨g1, g2, g3, g4⟩
theorem Item.put {x : Item} (hx : x.ok) (hg : x.good = true) {k : Nat} (hk : 20000 ≤ k) : rec_Put.f k x.key x.value x.flags x.exp x.ver = some (ints x.rec_, 0) := by
  obtain ⟨⟨f0, f1⟩, _, v0, v1⟩ := hx
  have h := prog_put (key := x.key) (value := x.value) (f := x.flags.toNat) (ver := x.ver.toNat) (e := x.exp) (by rw [Int.toNat_of_nonneg v0]; exact hg) (by omega) hk
  rw [Int.toNat_of_nonneg f0, Int.toNat_of_nonneg v0] at h
  exact h
theorem Item.take {x : Item} (hx : x.ok) (hg : x.good = true) (rest : List Nat) : takeN (x.rec_ ++ rest) = x.tells := by
  obtain ⟨⟨f0, f1⟩, ⟨e0, e1⟩, v0, v1⟩ := hx
  obtain ⟨g1, g2, g3, g4⟩ := Item.sizes hg
  have h := take_put (key := bs x.key) (value := bs x.value) (f := x.flags.toNat) (e := expN x.exp) (ver := x.ver.toNat) (by rw [bs_length]; exact g1) (by rw [bs_length]; exact g2) (by rw [bs_length]; exact g3) (by omega) (expN_lt _) (by omega) (by omega) rest (bs_lt _) (bs_lt _)
  unfold Item.rec_ Item.tells
  rw [h, bytesN_bs, bytesN_bs, Int.toNat_of_nonneg f0, Int.toNat_of_nonneg v0, exp_back _ e0 e1, bs_length, bs_length]
theorem Item.take' {x : Item} (hx : x.ok) (hg : x.good = true) : takeN x.rec_ = x.tells := by
  have := Item.take hx hg []
  rwa [List.append_nil] at this
/-- Bytes that are read as an item are, up to its end, its record. -/
theorem wf_ints_rec (x : Item) : Wf (ints x.rec_) := wf_ints x.rec_lt
end Go.Proofs.Ytefalfheeofhhaa.RecFacts
