/- TopSpills: steps of the connection. Printed by genS.py. -/
import Derived.Test.YtbmdocjeepnhmaaGreatDoorExRi
set_option linter.unusedVariables false
set_option linter.unusedSimpArgs false
set_option linter.unusedSectionVars false
namespace Go.Ev
open Go Go.RowKit Go.Proofs
set_option maxRecDepth 1000000
theorem fr_7 : freeB rr7.2 = true := by kernel_rfl
theorem run_7 : runS ⟨0, 31, 32, 87, 32, 118⟩ hh6 rr7 = true := by kernel_rfl
theorem fr_33 : freeB rr33.2 = true := by kernel_rfl
theorem run_33 : runS ⟨0, 31, 992, 1000, 992, 1031⟩ hh26 rr33 = true := by kernel_rfl
theorem fr_40 : freeB rr40.2 = true := by kernel_rfl
theorem run_40 : runS ⟨32, 87, 0, 31, 32, 118⟩ hh32 rr40 = true := by kernel_rfl
theorem fr_50 : freeB rr50.2 = true := by kernel_rfl
theorem run_50 : runS ⟨32, 87, 88, 95, 120, 182⟩ hh40 rr50 = true := by kernel_rfl
theorem fr_73 : freeB rr73.2 = true := by kernel_rfl
theorem run_73 : runS ⟨32, 87, 992, 1000, 1024, 1087⟩ hh58 rr73 = true := by kernel_rfl
theorem fr_74 : freeB rr74.2 = true := by kernel_rfl
theorem run_74 : runS ⟨88, 95, 0, 31, 88, 126⟩ hh30 rr74 = true := by kernel_rfl
theorem fr_105 : freeB rr105.2 = true := by kernel_rfl
theorem run_105 : runS ⟨88, 95, 992, 1000, 1080, 1095⟩ hh82 rr105 = true := by kernel_rfl
theorem fr_112 : freeB rr112.2 = true := by kernel_rfl
theorem run_112 : runS ⟨96, 223, 0, 31, 96, 254⟩ hh88 rr112 = true := by kernel_rfl
theorem fr_113 : freeB rr113.2 = true := by kernel_rfl
theorem run_113 : runS ⟨96, 223, 0, 31, 96, 254⟩ hh89 rr113 = true := by kernel_rfl
theorem fr_135 : freeB rr135.2 = true := by kernel_rfl
theorem run_135 : runS ⟨96, 223, 224, 428, 320, 395⟩ hh106 rr135 = true := by kernel_rfl
theorem fr_170 : freeB rr170.2 = true := by kernel_rfl
theorem run_170 : runS ⟨224, 428, 96, 223, 320, 395⟩ hh132 rr170 = true := by kernel_rfl
theorem fr_174 : freeB rr174.2 = true := by kernel_rfl
theorem run_174 : runS ⟨224, 479, 224, 479, 448, 958⟩ hh117 rr174 = true := by kernel_rfl
theorem fr_187 : freeB rr187.2 = true := by kernel_rfl
theorem run_187 : runS ⟨224, 428, 992, 1000, 1216, 1406⟩ hh144 rr187 = true := by kernel_rfl
theorem fr_190 : freeB rr190.2 = true := by kernel_rfl
theorem run_190 : runS ⟨224, 428, 992, 1000, 1216, 1406⟩ hh147 rr190 = true := by kernel_rfl
theorem fr_192 : freeB rr192.2 = true := by kernel_rfl
theorem run_192 : runS ⟨224, 479, 992, 1000, 1407, 1479⟩ hh148 rr192 = true := by kernel_rfl
theorem fr_224 : freeB rr224.2 = true := by kernel_rfl
theorem run_224 : runS ⟨480, 991, 224, 479, 704, 1406⟩ hh172 rr224 = true := by kernel_rfl
theorem fr_246 : freeB rr246.2 = true := by kernel_rfl
theorem run_246 : runS ⟨992, 1000, 0, 31, 992, 1031⟩ hh189 rr246 = true := by kernel_rfl
theorem fr_262 : freeB rr262.2 = true := by kernel_rfl
theorem run_262 : runS ⟨992, 1000, 224, 428, 1216, 1406⟩ hh201 rr262 = true := by kernel_rfl
theorem fr_267 : freeB rr267.2 = true := by kernel_rfl
theorem run_267 : runS ⟨992, 1000, 224, 479, 1407, 1479⟩ hh205 rr267 = true := by kernel_rfl
theorem fr_277 : freeB rr277.2 = true := by kernel_rfl
theorem run_277 : runS ⟨992, 1000, 992, 1000, 1984, 2000⟩ hh185 rr277 = true := by kernel_rfl
end Go.Ev
