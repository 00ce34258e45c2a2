/- The law RecBounds on numbers and lists: keys and values at their bounds are taken, one past them refused. -/
import Derived.Test.YtefalfheeofhhaaQRx30
import Derived.Test.YtefalfheeofhhaaQRItem
namespace Go.Proofs.Ytefalfheeofhhaa.Pure
open Go.RowKit Go.Proofs.Ytefalfheeofhhaa.QR Go.Proofs.YtefalfheeofhhaaW.PrintWords Go.Proofs.YtefalfheeofhhaaW.PrintLast Go.Proofs.YtefalfheeofhhaaW.PrintMore
open RecFacts
theorem RecBounds : cellaretlaw4_RecBounds.Pure := by
  intro a v ver ha hv hver
  have ba := bounds_i64 ha
  have bv := bounds_i64 hv
  have bver := bounds_u64 hver
  refine ⟨40002, ?_⟩
  unfold cellaretlaw4_RecBounds.f
  rw [awake_ok (by decide)]
  simp only [Option.bind_some, if_true]
  by_cases h1 : a < 0
  · rw [if_pos h1]; simp only [cellaretlaw4_RecBounds.j0]; rfl
  rw [if_neg h1]
  by_cases h2 : a > 300
  · rw [if_pos h2]; simp only [cellaretlaw4_RecBounds.j0]; rfl
  rw [if_neg h2]
  by_cases h3 : v < 0
  · rw [if_pos h3]; simp only [cellaretlaw4_RecBounds.j0]; rfl
  rw [if_neg h3]
  simp only [cellaretlaw4_RecBounds.j0]
  by_cases h4 : v > 1200
  · rw [if_pos (decide_eq_true h4)]
  rw [if_neg (by simpa using h4), if_pos (by omega), if_pos (by omega)]
  simp only [Option.bind_some]
  rw [if_pos (by omega), if_pos (by omega)]
  generalize hx : (⟨strOfNums (List.replicate a.toNat 0), strOfNums (List.replicate v.toNat 0), 0, 0, ver⟩ : Go.Proofs.Ytefalfheeofhhaa.RecFacts.Item) = x
  have hkey : strOfNums (List.replicate a.toNat 0) = x.key := by rw [← hx]
  have hval : strOfNums (List.replicate v.toNat 0) = x.value := by rw [← hx]
  have hfl : (0 : Int) = x.flags := by rw [← hx]
  have hex : (0 : Int) = x.exp := by rw [← hx]
  have hvr : ver = x.ver := by rw [← hx]
  have sk : x.key.size = a.toNat := by rw [← hkey, strOfNums_size]; simp
  have sv : x.value.size = v.toNat := by rw [← hval, strOfNums_size]; simp
  have hok : x.ok := ⟨by omega, by omega, by omega⟩
  have bad : x.good = false → (cellaretlaw4_RecBounds.j1 40001 a v ([] : List Int) 1 false x.key x.value 0 0 ver = some true) := fun hg => by
    simp only [cellaretlaw4_RecBounds.j1]
    rw [if_neg (by decide), if_pos (by decide), if_pos (by decide), hfl, hvr]
    have : rec_Good.f x.key x.value x.flags x.flags x.ver = some x.good := good_ok _ _ _ _ _
    rw [this, hg]
    rfl
  rw [hkey, hval]
  by_cases hg : x.good = true
  · obtain ⟨g1, g2, g3, g4⟩ := Item.sizes hg
    have hput := Item.put hok hg (k := 40001) (by decide)
    rw [← hfl, ← hex, ← hvr] at hput
    rw [hput]
    simp only [Option.bind_some]
    rw [if_pos (by omega), if_pos (by omega), if_pos (by omega), decide_eq_true (show ver > 0 by omega)]
    simp only [cellaretlaw4_RecBounds.j1]
    have hl := Item.rec_length x
    have hil : (ints x.rec_).length = 32 + x.key.size + x.value.size := by rw [ints_length, hl]
    rw [if_pos trivial, prog_take (wf_ints_rec x) (by omega) (by omega), ns_ints, Item.take' hok hg]
    simp only [Option.bind_some, Item.tells]
    rw [if_pos trivial, if_pos (by unfold wrap64; omega), if_pos trivial, if_pos (by omega), ← hfl, ← hex, ← hvr]
    simp
  · have hg' : x.good = false := by simpa using hg
    have hput := prog_put_bad (key := x.key) (value := x.value) (f := 0) (e := 0) (ver := ver) (by rw [hvr]; exact hg') 40001
    rw [hput]
    simp only [Option.bind_some]
    have gdef : x.good = (decide (1 ≤ x.key.size) && decide (x.key.size ≤ 250) && decide (x.value.size ≤ 1024) && decide (0 < x.ver)) := rfl
    by_cases c1 : a ≥ 1
    · rw [if_pos c1]
      by_cases c2 : a ≤ 250
      · rw [if_pos c2]
        by_cases c3 : v ≤ 1024
        · rw [if_pos c3]
          have c4 : ¬ ver > 0 := fun h => by
            rw [gdef, decide_eq_true (by omega), decide_eq_true (by omega), decide_eq_true (by omega), decide_eq_true (by omega)] at hg'
            exact absurd hg' (by decide)
          rw [decide_eq_false c4]
          exact bad hg'
        · rw [if_neg c3]; exact bad hg'
      · rw [if_neg c2]; exact bad hg'
    · rw [if_neg c1]; exact bad hg'
end Go.Proofs.Ytefalfheeofhhaa.Pure
