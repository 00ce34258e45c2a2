/- TopSpills: steps of the connection. Printed by genS.py. -/
import Derived.Test.YtbmdocjeepnhmaaGreatDoorExRi
set_option linter.unusedVariables false
set_option linter.unusedSimpArgs false
set_option linter.unusedSectionVars false
namespace Go.Ev
open Go Go.RowKit Go.Proofs
set_option maxRecDepth 1000000
theorem fr_17 : freeB rr17.2 = true := by kernel_rfl
theorem run_17 : runS ⟨0, 31, 96, 223, 96, 254⟩ hh14 rr17 = true := by kernel_rfl
theorem fr_26 : freeB rr26.2 = true := by kernel_rfl
theorem run_26 : runS ⟨0, 31, 429, 479, 429, 510⟩ hh21 rr26 = true := by kernel_rfl
theorem fr_27 : freeB rr27.2 = true := by kernel_rfl
theorem run_27 : runS ⟨0, 31, 480, 991, 480, 1022⟩ hh1 rr27 = true := by kernel_rfl
theorem fr_30 : freeB rr30.2 = true := by kernel_rfl
theorem run_30 : runS ⟨0, 31, 480, 991, 480, 1022⟩ hh24 rr30 = true := by kernel_rfl
theorem fr_76 : freeB rr76.2 = true := by kernel_rfl
theorem run_76 : runS ⟨88, 95, 0, 31, 88, 126⟩ hh60 rr76 = true := by kernel_rfl
theorem fr_83 : freeB rr83.2 = true := by kernel_rfl
theorem run_83 : runS ⟨88, 95, 88, 95, 176, 190⟩ hh35 rr83 = true := by kernel_rfl
theorem fr_91 : freeB rr91.2 = true := by kernel_rfl
theorem run_91 : runS ⟨88, 95, 96, 223, 184, 318⟩ hh72 rr91 = true := by kernel_rfl
theorem fr_95 : freeB rr95.2 = true := by kernel_rfl
theorem run_95 : runS ⟨88, 95, 224, 428, 312, 395⟩ hh75 rr95 = true := by kernel_rfl
theorem fr_115 : freeB rr115.2 = true := by kernel_rfl
theorem run_115 : runS ⟨96, 223, 32, 95, 128, 318⟩ hh86 rr115 = true := by kernel_rfl
theorem fr_149 : freeB rr149.2 = true := by kernel_rfl
theorem run_149 : runS ⟨96, 223, 992, 1000, 1088, 1223⟩ hh116 rr149 = true := by kernel_rfl
theorem fr_150 : freeB rr150.2 = true := by kernel_rfl
theorem run_150 : runS ⟨224, 479, 0, 223, 224, 702⟩ hh0 rr150 = true := by kernel_rfl
theorem fr_153 : freeB rr153.2 = true := by kernel_rfl
theorem run_153 : runS ⟨224, 479, 0, 31, 224, 510⟩ hh119 rr153 = true := by kernel_rfl
theorem fr_154 : freeB rr154.2 = true := by kernel_rfl
theorem run_154 : runS ⟨224, 428, 0, 31, 224, 459⟩ hh120 rr154 = true := by kernel_rfl
theorem fr_161 : freeB rr161.2 = true := by kernel_rfl
theorem run_161 : runS ⟨224, 479, 88, 95, 312, 574⟩ hh122 rr161 = true := by kernel_rfl
theorem fr_200 : freeB rr200.2 = true := by kernel_rfl
theorem run_200 : runS ⟨429, 479, 96, 223, 525, 702⟩ hh153 rr200 = true := by kernel_rfl
theorem fr_205 : freeB rr205.2 = true := by kernel_rfl
theorem run_205 : runS ⟨480, 991, 0, 31, 480, 1022⟩ hh157 rr205 = true := by kernel_rfl
theorem fr_221 : freeB rr221.2 = true := by kernel_rfl
theorem run_221 : runS ⟨480, 991, 224, 479, 704, 1470⟩ hh154 rr221 = true := by kernel_rfl
theorem fr_233 : freeB rr233.2 = true := by kernel_rfl
theorem run_233 : runS ⟨480, 991, 480, 991, 960, 1982⟩ hh178 rr233 = true := by kernel_rfl
theorem fr_243 : freeB rr243.2 = true := by kernel_rfl
theorem run_243 : runS ⟨992, 1000, 0, 31, 992, 1031⟩ hh186 rr243 = true := by kernel_rfl
theorem fr_265 : freeB rr265.2 = true := by kernel_rfl
theorem run_265 : runS ⟨992, 1000, 224, 428, 1216, 1406⟩ hh204 rr265 = true := by kernel_rfl
theorem fr_270 : freeB rr270.2 = true := by kernel_rfl
theorem run_270 : runS ⟨992, 1000, 429, 479, 1421, 1479⟩ hh206 rr270 = true := by kernel_rfl
end Go.Ev
