/- Closed facts of the row, each by the kernel. -/
import Derived.Test.YtbmdocjeepnhmaaGreatDoorCards
import Derived.JoinedOf
import Derived.KernelRfl
import Derived.Test.YtbmdocjeepnhmaaGreatDoorExCa
import Derived.Test.YtbmdocjeepnhmaaGreatDoorExCb
set_option linter.unusedVariables false
set_option linter.unusedSimpArgs false
set_option linter.unusedSectionVars false
namespace Go.Proofs.YtbmdocjeepnhmaaGreatDoor.closed
open Go
theorem k0 : (Rows.topSpillsRow.wf (OpenSpec.ofChange Rows.topSpillsSpec)) = true := by kernel_rfl
theorem k3 : (Tryz.f3.params.all (Tryz.prog.readableRec ·)) = true := by kernel_rfl
theorem k4 : (namedTie Tryz.prog Rows.topSpillsRow.named Rows.topSpillsSpec.vars) = true := by kernel_rfl
theorem k5 : ((Rows.topSpillsRow.stops == [])) = true := by kernel_rfl
theorem k6 : ((Tryz.prog.stops == [])) = true := by kernel_rfl
theorem k7 : ((Rows.topSpillsRow.knobs == [])) = true := by kernel_rfl
theorem k8 : ((Tryz.prog.stopKnobs == [])) = true := by kernel_rfl
theorem k13 : ((Rows.topSpillsRow.maps == (Tryz.f3.params.toList ++ Rows.topSpillsSpec.plain.varTypes Tryz.prog).any (Tryz.prog.mapsRec ·))) = true := by kernel_rfl
theorem k14 : ((Rows.topSpillsRow.ifaces == (Tryz.f3.params.toList ++ Rows.topSpillsSpec.plain.varTypes Tryz.prog).any (Tryz.prog.ifacesRec ·))) = true := by kernel_rfl
theorem k15 : ((Rows.topSpillsRow.mapsOut == Tryz.prog.mapsAmong Tryz.f3.resultTypes.toList)) = true := by kernel_rfl
theorem k16 : ((Rows.topSpillsRow.loops == (Tryz.f3.params.toList ++ Rows.topSpillsSpec.plain.varTypes Tryz.prog).any (Tryz.prog.loopsFrom ·))) = true := by kernel_rfl
theorem k17 : ((Rows.topSpillsRow.wideKeys == (Tryz.f3.params.toList ++ Rows.topSpillsSpec.plain.varTypes Tryz.prog ++ Tryz.f3.resultTypes.toList).any (Tryz.prog.wideKeysFrom ·))) = true := by kernel_rfl
theorem k18 : (Rows.topSpillsSpec.vars.all (Tryz.prog.varReadable ·)) = true := by kernel_rfl
theorem k19 : (Tryz.f3.resultTypes.all (fun t => Tryz.prog.readableRec t && decide (t < Tryz.prog.types.size))) = true := by kernel_rfl
theorem k20 : ((Rows.topSpillsRow.ifacesOut == Tryz.f3.resultTypes.toList.any (Tryz.prog.ifacesRec ·))) = true := by kernel_rfl
theorem k21 : ((Rows.topSpillsRow.loopsOut == Tryz.f3.resultTypes.toList.any (Tryz.prog.loopsFrom ·))) = true := by kernel_rfl
theorem k23 : (Rows.topSpillsRow.shortTexts.isNone) = true := by kernel_rfl
theorem k26 : ((Rows.topSpillsRow.lifted == Tryz.prog.liftsFinal)) = true := by kernel_rfl
theorem k27 : ((Tryz.prog.make == some Rows.topSpillsRow.make)) = true := by kernel_rfl
theorem k28 : ((Rows.topSpillsRow.kinds == (if Rows.topSpillsRow.domain.isEmpty then [] else Tryz.f3.params.toList.map fun t => match Tryz.prog.underlying t with | some (.int k) => some k | _ => none))) = true := by kernel_rfl
theorem k29 : ((Rows.topSpillsRow.pinned == Rows.topSpillsRow.pinnedBy)) = true := by kernel_rfl
theorem k30 : ((Rows.topSpillsRow.veiled == (Tryz.f3.params.toList ++ Rows.topSpillsSpec.plain.varTypes Tryz.prog ++ Tryz.f3.resultTypes.toList).any (Tryz.prog.veiledRec ·))) = true := by kernel_rfl
theorem k31 : (Rows.topSpillsRow.veiledFits Tryz.prog Tryz.f3.params.toList (Tryz.f3.params.toList ++ Rows.topSpillsSpec.plain.varTypes Tryz.prog ++ Tryz.f3.resultTypes.toList)) = true := by kernel_rfl
end Go.Proofs.YtbmdocjeepnhmaaGreatDoor.closed
namespace Go.Proofs.YtbmdocjeepnhmaaGreatDoor.closed
open Go
theorem and2 {a b : Bool} (ha : a = true) (hb : b = true) : (a && b) = true := by rw [ha, hb]; rfl
set_option maxRecDepth 100000 in
theorem all : joinedFacts Tryz.prog 3 Tryz.f3 Rows.topSpillsSpec Rows.topSpillsRow = true := by
 unfold joinedFacts
 exact (and2 (and2 (and2 (and2 (and2 (and2 (and2 (and2 (and2 (and2 (and2 (and2 (and2 (and2 (and2 (and2 (and2 (and2 (and2 (and2 (and2 (and2 (and2 (and2 (and2 (and2 (and2 (and2 (and2 (and2 (and2 k0 k1) k2) k3) k4) k5) k6) k7) k8) k9) k10) k11) k12) k13) k14) k15) k16) k17) k18) k19) k20) k21) k22) k23) k24) k25) k26) k27) k28) k29) k30) k31)
end Go.Proofs.YtbmdocjeepnhmaaGreatDoor.closed
