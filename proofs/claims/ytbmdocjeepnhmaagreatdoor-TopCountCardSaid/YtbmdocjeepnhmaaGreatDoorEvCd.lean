/- The row's closed facts, together. -/
import Derived.Test.YtbmdocjeepnhmaaGreatDoorEvCa
import Derived.Test.YtbmdocjeepnhmaaGreatDoorEvCb
import Derived.Test.YtbmdocjeepnhmaaGreatDoorEvCc
set_option linter.unusedVariables false
set_option linter.unusedSimpArgs false
set_option linter.unusedSectionVars false
namespace Go.Proofs.YtbmdocjeepnhmaaGreatDoor.closed
open Go
theorem and2 {a b : Bool} (ha : a = true) (hb : b = true) : (a && b) = true := by rw [ha, hb]; rfl
set_option maxRecDepth 100000 in
theorem all : joinedFacts Tryz.prog 4 Tryz.f4 Rows.topCountSpec Rows.topCountRow = true := by
 unfold joinedFacts
 exact (and2 (and2 (and2 (and2 (and2 (and2 (and2 (and2 (and2 (and2 (and2 (and2 (and2 (and2 (and2 (and2 (and2 (and2 (and2 (and2 (and2 (and2 (and2 (and2 (and2 (and2 (and2 (and2 (and2 (and2 (and2 k0 k1) k2) k3) k4) k5) k6) k7) k8) k9) k10) k11) k12) k13) k14) k15) k16) k17) k18) k19) k20) k21) k22) k23) k24) k25) k26) k27) k28) k29) k30) k31)
end Go.Proofs.YtbmdocjeepnhmaaGreatDoor.closed
