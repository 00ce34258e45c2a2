/- Arrays of four bytes, compared. -/
import Derived.Test.YtefalfheeofhhaaQSx0
import Derived.ChangeKeysEq
namespace Go.Proofs.Ytefalfheeofhhaa.XArr
open Go Go.RowKit Go.Proofs.YtefalfheeofhhaaW.PrintWords Go.Proofs.YtefalfheeofhhaaW.PrintLast Go.Proofs.YtefalfheeofhhaaW.PrintMore
theorem at4 (a b c d x : Int) (h0 : 0 ≤ x) (h1 : x < 4) : (#[Value.int .u8 a, .int .u8 b, .int .u8 c, .int .u8 d] : Array Value)[x.toNat]? = some (.int .u8 (rd [a, b, c, d] x)) := by
  obtain h | h | h | h : x = 0 ∨ x = 1 ∨ x = 2 ∨ x = 3 := by omega
  all_goals (subst h; rfl)
theorem eqi_cons {P : Program} {w : World} {d : Nat} {e : TypeId} {c i : Nat} {xs ys : Array Value} {is : List Nat} {a b : Value} {r s : Bool} (ha : (part e xs (i * c)).run P w = .ok a w) (hb : (part e ys (i * c)).run P w = .ok b w)
    (he : (Op.equalIn d e a b).run P w = .ok r w) (hr : (Op.eqItems d e c xs ys is).run P w = .ok s w) : (Op.eqItems d e c xs ys (i :: is)).run P w = .ok (r && s) w := by
  simp only [Op.eqItems, Sem.run_bind, ha, hb, he, Result.andThen_ok]
  cases r
  · simp
  · simpa using hr
theorem eqA35 (d : Nat) (w : World) (x0 y0 x1 y1 x2 y2 x3 y3 : Int) :
    (Op.equalIn (d + 2) 35 (.agg #[.int .u8 x0, .int .u8 x1, .int .u8 x2, .int .u8 x3]) (.agg #[.int .u8 y0, .int .u8 y1, .int .u8 y2, .int .u8 y3])).run Try.prog w = .ok (x0 == y0 && (x1 == y1 && (x2 == y2 && (x3 == y3)))) w := by
  obtain ⟨i, hi, _⟩ := Option.map_eq_some_iff.mp Go.Proofs.Ytefalfheeofhhaa.QS.info5
  rw [run_equalIn_array w (d + 1) _ _ Try.underlying35 hi]
  rw [show Try.prog.cellsOf 5 = 1 from by kernel_rfl, show List.range 4 = [0, 1, 2, 3] from rfl]
  rw [show (x3 == y3) = ((x3 == y3) && true) from by simp]
  refine eqi_cons (by go_simp; rfl) (by go_simp; rfl) (by go_simp) ?_
  refine eqi_cons (by go_simp; rfl) (by go_simp; rfl) (by go_simp) ?_
  refine eqi_cons (by go_simp; rfl) (by go_simp; rfl) (by go_simp) ?_
  refine eqi_cons (by go_simp; rfl) (by go_simp; rfl) (by go_simp) ?_
  simp [Op.eqItems]
end Go.Proofs.Ytefalfheeofhhaa.XArr
