/- TopSpills: steps of the connection. Printed by genS.py. -/
import Derived.Test.YtbmdocjeepnhmaaGreatDoorExRi
set_option linter.unusedVariables false
set_option linter.unusedSimpArgs false
set_option linter.unusedSectionVars false
namespace Go.Ev
open Go Go.RowKit Go.Proofs
set_option maxRecDepth 1000000
theorem fr_22 : freeB rr22.2 = true := by kernel_rfl
theorem run_22 : runS ⟨0, 31, 224, 479, 224, 510⟩ hh18 rr22 = true := by kernel_rfl
theorem fr_31 : freeB rr31.2 = true := by kernel_rfl
theorem run_31 : runS ⟨0, 31, 480, 991, 480, 1022⟩ hh25 rr31 = true := by kernel_rfl
theorem fr_32 : freeB rr32.2 = true := by kernel_rfl
theorem run_32 : runS ⟨0, 31, 992, 1000, 992, 1031⟩ hh1 rr32 = true := by kernel_rfl
theorem fr_35 : freeB rr35.2 = true := by kernel_rfl
theorem run_35 : runS ⟨0, 31, 992, 1000, 992, 1031⟩ hh28 rr35 = true := by kernel_rfl
theorem fr_80 : freeB rr80.2 = true := by kernel_rfl
theorem run_80 : runS ⟨88, 95, 32, 87, 120, 182⟩ hh63 rr80 = true := by kernel_rfl
theorem fr_88 : freeB rr88.2 = true := by kernel_rfl
theorem run_88 : runS ⟨88, 95, 96, 223, 184, 318⟩ hh69 rr88 = true := by kernel_rfl
theorem fr_96 : freeB rr96.2 = true := by kernel_rfl
theorem run_96 : runS ⟨88, 95, 224, 428, 312, 395⟩ hh76 rr96 = true := by kernel_rfl
theorem fr_97 : freeB rr97.2 = true := by kernel_rfl
theorem run_97 : runS ⟨88, 95, 224, 479, 396, 574⟩ hh75 rr97 = true := by kernel_rfl
theorem fr_124 : freeB rr124.2 = true := by kernel_rfl
theorem run_124 : runS ⟨96, 223, 96, 223, 192, 446⟩ hh86 rr124 = true := by kernel_rfl
theorem run_150_1 : runS ⟨224, 479, 224, 1000, 448, 1479⟩ hh0 rr150 = true := by kernel_rfl
theorem fr_155 : freeB rr155.2 = true := by kernel_rfl
theorem run_155 : runS ⟨224, 428, 0, 31, 224, 459⟩ hh121 rr155 = true := by kernel_rfl
theorem fr_158 : freeB rr158.2 = true := by kernel_rfl
theorem run_158 : runS ⟨224, 479, 32, 87, 256, 566⟩ hh123 rr158 = true := by kernel_rfl
theorem fr_159 : freeB rr159.2 = true := by kernel_rfl
theorem run_159 : runS ⟨224, 428, 32, 87, 256, 515⟩ hh124 rr159 = true := by kernel_rfl
theorem fr_168 : freeB rr168.2 = true := by kernel_rfl
theorem run_168 : runS ⟨224, 479, 96, 223, 320, 702⟩ hh130 rr168 = true := by kernel_rfl
theorem fr_206 : freeB rr206.2 = true := by kernel_rfl
theorem run_206 : runS ⟨480, 991, 0, 31, 480, 1022⟩ hh158 rr206 = true := by kernel_rfl
theorem fr_210 : freeB rr210.2 = true := by kernel_rfl
theorem run_210 : runS ⟨480, 991, 32, 87, 512, 1078⟩ hh161 rr210 = true := by kernel_rfl
theorem fr_231 : freeB rr231.2 = true := by kernel_rfl
theorem run_231 : runS ⟨480, 991, 480, 991, 960, 1982⟩ hh154 rr231 = true := by kernel_rfl
theorem fr_238 : freeB rr238.2 = true := by kernel_rfl
theorem run_238 : runS ⟨480, 991, 992, 1000, 1472, 1991⟩ hh182 rr238 = true := by kernel_rfl
theorem fr_248 : freeB rr248.2 = true := by kernel_rfl
theorem run_248 : runS ⟨992, 1000, 32, 87, 1024, 1087⟩ hh190 rr248 = true := by kernel_rfl
theorem fr_269 : freeB rr269.2 = true := by kernel_rfl
theorem run_269 : runS ⟨992, 1000, 224, 428, 1407, 1428⟩ hh207 rr269 = true := by kernel_rfl
theorem fr_275 : freeB rr275.2 = true := by kernel_rfl
theorem run_275 : runS ⟨992, 1000, 480, 991, 1472, 1991⟩ hh211 rr275 = true := by kernel_rfl
end Go.Ev
