/- The law SumKnown: the examples of chapter 1, reckoned. -/
import Derived.Test.YtefalfheeofhhaaQSx1
namespace Go.Proofs.Ytefalfheeofhhaa.Pure
open Go.RowKit Go.Proofs.Ytefalfheeofhhaa.QS Go.Proofs.YtefalfheeofhhaaW.PrintWords Go.Proofs.YtefalfheeofhhaaW.PrintLast
theorem SumKnown : cellaretlaw1_SumKnown.Pure := ⟨200, by decide +kernel⟩
end Go.Proofs.Ytefalfheeofhhaa.Pure
