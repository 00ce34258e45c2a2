/- The law RecKnown: the examples of chapter 4, reckoned. -/
import Derived.Test.YtefalfheeofhhaaQRx14
namespace Go.Proofs.Ytefalfheeofhhaa.Pure
open Go.RowKit Go.Proofs.Ytefalfheeofhhaa.QR Go.Proofs.YtefalfheeofhhaaW.PrintWords Go.Proofs.YtefalfheeofhhaaW.PrintLast
theorem RecKnown : cellaretlaw4_RecKnown.Pure := ⟨1000, by decide +kernel⟩
end Go.Proofs.Ytefalfheeofhhaa.Pure
