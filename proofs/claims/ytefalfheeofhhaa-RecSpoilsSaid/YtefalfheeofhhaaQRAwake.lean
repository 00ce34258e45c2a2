/- The chapter's own examples are told: in a thousand rounds, and so in any number beyond. -/
import Derived.Test.YtefalfheeofhhaaQRx13
namespace Go.Proofs.Ytefalfheeofhhaa.RecFacts
open Go.RowKit Go.Proofs.Ytefalfheeofhhaa.QR Go.Proofs.YtefalfheeofhhaaW.PrintWords Go.Proofs.YtefalfheeofhhaaW.PrintLast Go.Proofs.YtefalfheeofhhaaW.PrintMore
theorem awake_at : cellaretlaw4_awake.f 1000 = some true := by decide +kernel
theorem awake_ok {k : Nat} (hk : 1000 ≤ k) : cellaretlaw4_awake.f k = some true := by
  induction k with
  | zero => omega
  | succ k ih =>
    rcases Nat.lt_or_ge k 1000 with h | h
    · obtain rfl : k = 999 := by omega
      exact awake_at
    · exact cellaretlaw4_awake.mono k _ (ih h)
end Go.Proofs.Ytefalfheeofhhaa.RecFacts
