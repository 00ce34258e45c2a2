/- Closed facts of the row, each by the kernel. -/
import Derived.Test.YtbmdocjeepnhmaaGreatDoorCards
import Derived.JoinedOf
import Derived.KernelRfl
set_option linter.unusedVariables false
set_option linter.unusedSimpArgs false
set_option linter.unusedSectionVars false
namespace Go.Proofs.YtbmdocjeepnhmaaGreatDoor.closed
open Go
theorem k1 : (laidOutB Tryz.prog) = true := by kernel_rfl
theorem k2 : (mapsRowed Tryz.prog) = true := by kernel_rfl
theorem k9 : ((Rows.topSpillsRow.inPlace == Tryz.prog.inPlace 3)) = true := by kernel_rfl
theorem k22 : ((Rows.topSpillsRow.plainKeys == Tryz.prog.plainKeys)) = true := by kernel_rfl
theorem k24 : (Tryz.prog.stopsHeard) = true := by kernel_rfl
end Go.Proofs.YtbmdocjeepnhmaaGreatDoor.closed
