/- The law RecApart on strings and numbers: unlike items have unlike bytes. -/
import Derived.Test.YtefalfheeofhhaaQRx29
import Derived.Test.YtefalfheeofhhaaQRItem
namespace Go.Proofs.Ytefalfheeofhhaa.Pure
open Go.RowKit Go.Proofs.Ytefalfheeofhhaa.QR Go.Proofs.YtefalfheeofhhaaW.PrintWords Go.Proofs.YtefalfheeofhhaaW.PrintLast Go.Proofs.YtefalfheeofhhaaW.PrintMore
open RecFacts
theorem RecApart (key value : ByteArray) (f e ver : Int) (key' value' : ByteArray) (f' e' ver' : Int) (hf : (Lit.int .u32 f).wf = true) (he : (Lit.int .i64 e).wf = true) (hver : (Lit.int .u64 ver).wf = true)
    (hf' : (Lit.int .u32 f').wf = true) (he' : (Lit.int .i64 e').wf = true) (hver' : (Lit.int .u64 ver').wf = true) : ∃ k, cellaretlaw4_RecApart.f k key value f e ver key' value' f' e' ver' = some true := by
  have bf := bounds_u32 hf
  have be := bounds_i64 he
  have bv := bounds_u64 hver
  have bf' := bounds_u32 hf'
  have be' := bounds_i64 he'
  have bv' := bounds_u64 hver'
  refine ⟨70002, ?_⟩
  unfold cellaretlaw4_RecApart.f
  rw [awake_ok (by decide)]
  simp only [Option.bind_some, if_true, refgood_ok]
  have j0t : cellaretlaw4_RecApart.j0 70002 true key value f e ver key' value' f' e' ver' = some true := by simp only [cellaretlaw4_RecApart.j0]; rfl
  by_cases hg : goodP key value ver = true
  · rw [if_pos hg]
    by_cases hg' : goodP key' value' ver' = true
    · rw [hg']
      let x : Go.Proofs.Ytefalfheeofhhaa.RecFacts.Item := ⟨key, value, f, e, ver⟩
      let y : Go.Proofs.Ytefalfheeofhhaa.RecFacts.Item := ⟨key', value', f', e', ver'⟩
      have hx : x.ok := ⟨bf, be, bv⟩
      have hy : y.ok := ⟨bf', be', bv'⟩
      have hgx : x.good = true := hg
      have hgy : y.good = true := hg'
      have hput : rec_Put.f 70001 key value f e ver = some (ints x.rec_, 0) := Item.put hx hgx (k := 70001) (by decide)
      have hput' : rec_Put.f 70001 key' value' f' e' ver' = some (ints y.rec_, 0) := Item.put hy hgy (k := 70001) (by decide)
      simp only [cellaretlaw4_RecApart.j0]
      rw [if_neg (by decide), hput]
      simp only [Option.bind_some]
      rw [hput']
      simp only [Option.bind_some]
      rw [if_pos trivial, if_pos trivial, strOfNums_eq, strOfNums_eq, ns_ints, ns_ints]
      congr 1
      have hiff : (bytesN x.rec_ = bytesN y.rec_) ↔ x = y := by
        constructor
        · intro h
          have h2 : x.rec_ = y.rec_ := by rw [← bs_bytesN x.rec_lt, ← bs_bytesN y.rec_lt, h]
          have tx := Item.take' hx hgx
          have ty := Item.take' hy hgy
          rw [h2, ty] at tx
          simp only [Item.tells, Prod.mk.injEq, x, y] at tx
          obtain ⟨t1, t2, t3, t4, t5, _⟩ := tx
          simp only [x, y, Go.Proofs.Ytefalfheeofhhaa.RecFacts.Item.mk.injEq]
          exact ⟨t1.symm, t2.symm, t3.symm, t4.symm, t5.symm⟩
        · intro h; rw [h]
      have hxy : x = y ↔ (key = key' ∧ value = value' ∧ f = f' ∧ e = e' ∧ ver = ver') := by
        simp only [x, y, Go.Proofs.Ytefalfheeofhhaa.RecFacts.Item.mk.injEq]
      have hb : ((bytesN x.rec_).toList == (bytesN y.rec_).toList) = (key.toList == key'.toList && (value.toList == value'.toList && (f == f' && (e == e' && (ver == ver'))))) := by
        rw [Bool.eq_iff_iff]
        simp only [Bool.and_eq_true, beq_iff_eq, toList_inj]
        exact hiff.trans hxy
      rw [hb]
      simp
    · have : goodP key' value' ver' = false := by simpa using hg'
      rw [this]
      exact j0t
  · rw [if_neg hg]
    exact j0t
end Go.Proofs.Ytefalfheeofhhaa.Pure
