/- The law RecPuts on strings, numbers and lists: an item's bytes are what the document says, or it is refused; they are read back. -/
import Derived.Test.YtefalfheeofhhaaQRx22
import Derived.Test.YtefalfheeofhhaaQRItem
import Derived.Test.YtefalfheeofhhaaQRRput
namespace Go.Proofs.Ytefalfheeofhhaa.Pure
open Go.RowKit Go.Proofs.Ytefalfheeofhhaa.QR Go.Proofs.YtefalfheeofhhaaW.PrintWords Go.Proofs.YtefalfheeofhhaaW.PrintLast Go.Proofs.YtefalfheeofhhaaW.PrintMore
open RecFacts
theorem sizes_same (k v : ByteArray) (f e ver : Int) : ∃ z : Int, rec_Size.f k v f e ver = some z ∧ cellaretref4_Size.f k v f e ver = some z :=
  ⟨wrap64 ((wrap64 (32 + (k.size : Int))) + (v.size : Int)), by simp only [rec_Size.f], by simp only [cellaretref4_Size.f]⟩
theorem RecPuts_j0 {key value : ByteArray} {f e ver : Int} {l : List Int} (bf : 0 ≤ f ∧ f ≤ 4294967295) (be : -9223372036854775808 ≤ e ∧ e ≤ 9223372036854775807) (bv : 0 ≤ ver ∧ ver ≤ 18446744073709551615)
    (hW : Wf l) (h1 : ¬ (key.size : Int) > 2000) (h2 : ¬ (value.size : Int) > 3000) (h3 : ¬ (l.length : Int) > 500) {k : Nat} (hk : 70000 ≤ k) : cellaretlaw4_RecPuts.j0 (k + 2) l false key value f e ver = some true := by
  simp only [cellaretlaw4_RecPuts.j0]
  rw [if_neg (by decide), refgood_ok, good_ok]
  simp only [Option.bind_some]
  obtain ⟨z, hz1, hz2⟩ := sizes_same key value f e ver
  let x : Go.Proofs.Ytefalfheeofhhaa.RecFacts.Item := ⟨key, value, f, e, ver⟩
  have hok : x.ok := ⟨bf, be, bv⟩
  by_cases hg : goodP key value ver = true
  · have hgx : x.good = true := hg
    obtain ⟨g1, g2, g3, g4⟩ := Item.sizes hgx
    have hput : rec_Put.f (k + 1) key value f e ver = some (ints x.rec_, 0) := Item.put hok hgx (by omega)
    rw [hput, hg]
    rw [Option.bind_some, if_neg (by decide), hz1, hz2]
    simp only [Option.bind_some, bne_self_eq_false]
    simp only [cellaretlaw4_RecPuts.j1]
    have hl := Item.rec_length x
    have hil : (ints x.rec_).length = 32 + key.size + value.size := by rw [ints_length, hl]
    rw [if_neg (by decide), if_pos trivial]
    simp only [Option.bind_some, List.nil_append, List.length_nil]
    rw [if_pos (by omega), if_pos (by omega)]
    have hwr : Wf (ints x.rec_ ++ l) := fun b hb => by
      rcases List.mem_append.1 hb with h | h
      · exact wf_ints_rec x b h
      · exact hW b h
    have hns : ns (ints x.rec_ ++ l) = x.rec_ ++ ns l := by
      have : ns (ints x.rec_ ++ l) = ns (ints x.rec_) ++ ns l := by simp [ns]
      rw [this, ns_ints]
    rw [prog_take hwr (by simp only [List.length_append]; omega) (by simp only [List.length_append]; omega), hns, Item.take hok hgx]
    have href : cellaretref4_Put.f k key value f e ver = some (bytesN x.rec_) := Item.refput hok hgx (by omega)
    simp only [Option.bind_some, Item.tells]
    rw [if_pos trivial, href]
    simp only [Option.bind_some]
    rw [if_pos (by rw [strOfNums_eq, ns_ints]), if_pos trivial, if_pos (by rw [hil])]
    simp [x]
  · have hg' : goodP key value ver = false := by simpa using hg
    rw [prog_put_bad hg', hg']
    rw [Option.bind_some, if_neg (by decide), hz1, hz2]
    simp only [Option.bind_some, bne_self_eq_false]
    simp only [cellaretlaw4_RecPuts.j1]
    rw [if_neg (by decide), if_neg (by decide), if_pos trivial]
    simp
theorem RecPuts (key value : ByteArray) (f e ver : Int) (l : List Int) (hf : (Lit.int .u32 f).wf = true) (he : (Lit.int .i64 e).wf = true) (hver : (Lit.int .u64 ver).wf = true)
    (_ : l.length ≤ maxLen) (_ : l.length * 1 ≤ 140737488351232) (hw : ∀ x ∈ l, (Lit.int .u8 x).wf = true) : ∃ k, cellaretlaw4_RecPuts.f k key value f e ver l = some true := by
  have bf := bounds_u32 hf
  have be := bounds_i64 he
  have bv := bounds_u64 hver
  have hW := wf_of hw
  obtain ⟨n, hn⟩ : ∃ n, n = 70000 := ⟨_, rfl⟩
  refine ⟨n + 2, ?_⟩
  unfold cellaretlaw4_RecPuts.f
  rw [awake_ok (by omega)]
  simp only [Option.bind_some, if_true]
  have j0t : cellaretlaw4_RecPuts.j0 (n + 2) l true key value f e ver = some true := by simp only [cellaretlaw4_RecPuts.j0]; rw [if_pos trivial]
  by_cases h1 : (key.size : Int) > 2000
  · rw [if_pos h1, j0t]
  rw [if_neg h1]
  by_cases h2 : (value.size : Int) > 3000
  · rw [if_pos h2, j0t]
  rw [if_neg h2]
  by_cases h3 : (l.length : Int) > 500
  · rw [decide_eq_true h3, j0t]
  rw [decide_eq_false h3]
  exact RecPuts_j0 bf be bv hW h1 h2 h3 (by omega)
end Go.Proofs.Ytefalfheeofhhaa.Pure
