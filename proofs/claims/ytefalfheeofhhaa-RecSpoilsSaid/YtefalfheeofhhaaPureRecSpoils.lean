/- The law RecSpoils on strings, numbers and lists: a record of which a byte is changed, or that is cut, is never read as the item itself. -/
import Derived.Test.YtefalfheeofhhaaQRx28
import Derived.Test.YtefalfheeofhhaaQRSpoil
import Derived.Test.YtefalfheeofhhaaQRRef
namespace Go.Proofs.Ytefalfheeofhhaa.Pure
open Go.RowKit Go.Proofs.Ytefalfheeofhhaa.QR Go.Proofs.YtefalfheeofhhaaW.PrintWords Go.Proofs.YtefalfheeofhhaaW.PrintLast Go.Proofs.YtefalfheeofhhaaW.PrintMore
open RecFacts
abbrev RItem := Go.Proofs.Ytefalfheeofhhaa.RecFacts.Item
theorem spoils_j1 {x : RItem} (hx : x.ok) (hg : x.good = true) {at_ by_ cut : Int} (hat : 0 ≤ at_ ∧ at_ < (x.rec_.length : Int)) (hby : 0 < by_ ∧ by_ ≤ 255) (hcut : 0 ≤ cut ∧ cut < (x.rec_.length : Int)) {k : Nat} (hk : 70000 ≤ k) :
    cellaretlaw4_RecSpoils.j1 (k + 1) at_ by_ cut (ints x.rec_) 0 false x.key x.value x.flags x.exp x.ver = some true := by
  obtain ⟨g1, g2, g3, g4⟩ := Item.sizes hg
  have hl := Item.rec_length x
  obtain ⟨a, rfl⟩ : ∃ a : Nat, at_ = a := ⟨at_.toNat, by omega⟩
  obtain ⟨c, rfl⟩ : ∃ c : Nat, cut = c := ⟨cut.toNat, by omega⟩
  obtain ⟨b, rfl⟩ : ∃ b : Nat, by_ = b := ⟨by_.toNat, by omega⟩
  have hil : (ints x.rec_).length = x.rec_.length := ints_length _
  have hlt := x.rec_lt
  obtain ⟨v, hv⟩ : ∃ v, x.rec_[a]? = some v := ⟨_, List.getElem?_eq_getElem (by omega)⟩
  have hvl : v < 256 := hlt v (List.mem_of_getElem? hv)
  have hrd : rd (ints x.rec_) (a : Int) = (v : Int) := by
    rw [rd_getD (wf_ints_rec x) a (by omega), ns_ints, List.getD_eq_getElem?_getD, hv]
    rfl
  have hxl : v ^^^ b < 256 := Nat.xor_lt_two_pow (n := 8) hvl (by omega)
  generalize hm : x.rec_.set a (v ^^^ b) = m
  have hset : (ints x.rec_).set (a : Int).toNat (Go.bits .xor .u8 (rd (ints x.rec_) (a : Int)) (b : Int)) = ints m := by
    rw [hrd, Crc.xor_u8 v b hvl (by omega), Int.toNat_natCast, ← hm]
    unfold ints
    rw [List.map_set]
  have hml : m.length = x.rec_.length := by rw [← hm, List.length_set]
  have hmb : ∀ y ∈ m, y < 256 := fun y hy => by
    rw [← hm] at hy
    rcases List.mem_or_eq_of_mem_set hy with h | h
    · exact hlt y h
    · omega
  have hne : m ≠ x.rec_ := fun h => by
    have h2 : m[a]? = some (v ^^^ b) := by rw [← hm, List.getElem?_set_self (by omega)]
    rw [h, hv] at h2
    have h3 : v = v ^^^ b := by simpa using h2
    have h4 : v ^^^ v = v ^^^ (v ^^^ b) := by rw [← h3]
    rw [Nat.xor_self, ← Nat.xor_assoc, Nat.xor_self, Nat.zero_xor] at h4
    omega
  have hcutl : ∀ y ∈ x.rec_.take c, y < 256 := fun y hy => hlt y (List.mem_of_mem_take hy)
  have htk : (ints x.rec_).take (c : Int).toNat = ints (x.rec_.take c) := by
    rw [Int.toNat_natCast]; unfold ints; rw [List.map_take]
  simp only [cellaretlaw4_RecSpoils.j1]
  rw [if_neg (by decide), Option.bind_some, List.nil_append, List.length_nil, if_pos (by omega), Option.bind_some, if_pos (by omega), if_pos (by omega), hset, Option.bind_some]
  rw [prog_take (wf_ints hmb) (by rw [ints_length]; omega) (by rw [ints_length]; omega), Option.bind_some, strOfNums_eq, ns_ints]
  have hsz : (bytesN m).size = m.length := by rw [← bs_length, bs_bytesN hmb]
  rw [ref_take (by omega) (by omega), Option.bind_some, bs_bytesN hmb, if_pos (by omega), if_pos (by omega), htk]
  rw [prog_take (wf_ints hcutl) (by rw [ints_length, List.length_take]; omega) (by rw [ints_length, List.length_take]; omega), Option.bind_some, ns_ints]
  have hc := take_cut hx hg (n := c) (by omega)
  have hr := read_as hx hg hmb (by omega)
  generalize takeN (x.rec_.take c) = p at hc ⊢
  generalize takeN m = q at hr ⊢
  rw [if_pos (by simp), if_pos rfl, if_pos rfl, if_pos (by
    refine eq_true_of_ne_false fun hf => ?_
    simp only [Bool.or_eq_false_iff, Bool.not_eq_false', beq_iff_eq, toList_inj] at hf
    exact hne (hr hf.1 hf.2.1 hf.2.2.1 hf.2.2.2.1 hf.2.2.2.2))]
  congr 1
  simpa using hc
theorem spoils_j1t {at_ by_ cut : Int} {l : List Int} {key value : ByteArray} {f e ver : Int} {k : Nat} : cellaretlaw4_RecSpoils.j1 (k + 1) at_ by_ cut l 0 true key value f e ver = some true := by
  simp only [cellaretlaw4_RecSpoils.j1]
  rw [if_pos trivial]
  rfl
theorem RecSpoils (key value : ByteArray) (f e ver : Int) (at_ by_ cut : Int) (hf : (Lit.int .u32 f).wf = true) (he : (Lit.int .i64 e).wf = true) (hver : (Lit.int .u64 ver).wf = true)
    (_ : (Lit.int .i64 at_).wf = true) (hby : (Lit.int .u8 by_).wf = true) (_ : (Lit.int .i64 cut).wf = true) : ∃ k, cellaretlaw4_RecSpoils.f k key value f e ver at_ by_ cut = some true := by
  have bf := bounds_u32 hf
  have be := bounds_i64 he
  have bv := bounds_u64 hver
  have bb := bounds_u8 hby
  obtain ⟨n, hn⟩ : ∃ n, n = 70000 := ⟨_, rfl⟩
  refine ⟨n + 2, ?_⟩
  unfold cellaretlaw4_RecSpoils.f
  rw [awake_ok (by omega), Option.bind_some, if_pos rfl, refgood_ok, Option.bind_some]
  have j0t : cellaretlaw4_RecSpoils.j0 (n + 2) at_ by_ cut true key value f e ver = some true := by
    simp only [cellaretlaw4_RecSpoils.j0]
    rw [if_pos trivial]
  by_cases hg : goodP key value ver = true
  · rw [if_pos hg]
    by_cases hb0 : by_ = 0
    · rw [hb0] at j0t ⊢
      exact j0t
    have hb1 : (by_ == 0) = false := by simpa using hb0
    rw [hb1]
    let x : RItem := ⟨key, value, f, e, ver⟩
    have hx : x.ok := ⟨bf, be, bv⟩
    have hgx : x.good = true := hg
    have hput : rec_Put.f (n + 1) key value f e ver = some (ints x.rec_, 0) := Item.put hx hgx (k := n + 1) (by omega)
    have hil : (ints x.rec_).length = x.rec_.length := ints_length _
    simp only [cellaretlaw4_RecSpoils.j0]
    rw [if_neg (by decide), hput, Option.bind_some, if_pos rfl]
    by_cases h1 : at_ < 0
    · rw [if_pos h1]; exact spoils_j1t
    rw [if_neg h1]
    by_cases h2 : at_ ≥ ((ints x.rec_).length : Int)
    · rw [if_pos h2]; exact spoils_j1t
    rw [if_neg h2]
    by_cases h3 : cut < 0
    · rw [if_pos h3]; exact spoils_j1t
    rw [if_neg h3]
    by_cases h4 : cut ≥ ((ints x.rec_).length : Int)
    · rw [decide_eq_true h4]; exact spoils_j1t
    rw [decide_eq_false h4]
    exact spoils_j1 hx hgx (by omega) (by omega) (by omega) (by omega)
  · rw [if_neg hg]
    exact j0t
end Go.Proofs.Ytefalfheeofhhaa.Pure
