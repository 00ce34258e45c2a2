/- TopSpills: the flows. Printed by genS.py. -/
import Derived.Test.YtbmdocjeepnhmaaGreatDoorExRi
set_option linter.unusedVariables false
set_option linter.unusedSimpArgs false
set_option linter.unusedSectionVars false
namespace Go.Ev
open Go Go.RowKit Go.Proofs
set_option maxRecDepth 1000000
theorem flow_0 : flowB ⟨0, 31, 0, 31, 0, 62⟩ [(hh0, rr0), (hh1, rr1), (hh2, rr2), (hh3, rr3), (hh4, rr4), (hh5, rr5)] = true := by kernel_rfl
theorem flow_4 : flowB ⟨0, 31, 224, 428, 224, 459⟩ [(hh0, rr0), (hh1, rr20), (hh17, rr21), (hh18, rr22), (hh19, rr23), (hh20, rr24)] = true := by kernel_rfl
theorem flow_8 : flowB ⟨32, 87, 0, 31, 32, 118⟩ [(hh0, rr37), (hh30, rr38), (hh31, rr39), (hh32, rr40), (hh33, rr41), (hh34, rr42)] = true := by kernel_rfl
theorem flow_12 : flowB ⟨32, 87, 224, 428, 256, 515⟩ [(hh0, rr37), (hh30, rr57), (hh46, rr58), (hh47, rr59), (hh48, rr60), (hh49, rr61)] = true := by kernel_rfl
theorem flow_16 : flowB ⟨88, 95, 0, 31, 88, 126⟩ [(hh0, rr37), (hh30, rr74), (hh59, rr75), (hh60, rr76), (hh61, rr77), (hh62, rr78)] = true := by kernel_rfl
theorem flow_20 : flowB ⟨88, 95, 224, 428, 312, 395⟩ [(hh0, rr37), (hh30, rr92), (hh73, rr93), (hh74, rr94), (hh75, rr95), (hh76, rr96)] = true := by kernel_rfl
theorem flow_24 : flowB ⟨88, 95, 992, 1000, 1080, 1095⟩ [(hh0, rr37), (hh30, rr104), (hh82, rr105), (hh83, rr106), (hh84, rr107), (hh85, rr108)] = true := by kernel_rfl
theorem flow_28 : flowB ⟨96, 223, 96, 223, 192, 395⟩ [(hh0, rr109), (hh86, rr124), (hh98, rr125), (hh99, rr126), (hh100, rr127), (hh101, rr128)] = true := by kernel_rfl
theorem flow_32 : flowB ⟨96, 223, 429, 479, 525, 702⟩ [(hh0, rr109), (hh86, rr131), (hh103, rr132), (hh104, rr133), (hh105, rr138), (hh108, rr139)] = true := by kernel_rfl
theorem flow_36 : flowB ⟨224, 428, 32, 87, 256, 515⟩ [(hh0, rr150), (hh117, rr156), (hh122, rr157), (hh123, rr158), (hh124, rr159), (hh125, rr160)] = true := by kernel_rfl
theorem flow_40 : flowB ⟨224, 428, 96, 223, 396, 651⟩ [(hh0, rr150), (hh117, rr167), (hh130, rr168), (hh131, rr169), (hh132, rr172), (hh134, rr173)] = true := by kernel_rfl
theorem flow_44 : flowB ⟨224, 428, 480, 991, 1407, 1419⟩ [(hh0, rr150), (hh117, rr179), (hh139, rr180), (hh140, rr181), (hh141, rr184), (hh143, rr185)] = true := by kernel_rfl
theorem flow_48 : flowB ⟨429, 479, 32, 87, 461, 566⟩ [(hh0, rr150), (hh117, rr156), (hh122, rr157), (hh123, rr158), (hh124, rr197), (hh152, rr198)] = true := by kernel_rfl
theorem flow_52 : flowB ⟨429, 479, 429, 479, 858, 958⟩ [(hh0, rr150), (hh117, rr174), (hh135, rr175), (hh136, rr176), (hh137, rr177), (hh138, rr178)] = true := by kernel_rfl
theorem flow_56 : flowB ⟨480, 991, 0, 31, 480, 1022⟩ [(hh0, rr201), (hh154, rr202), (hh155, rr203), (hh156, rr204), (hh157, rr205), (hh158, rr206)] = true := by kernel_rfl
theorem flow_60 : flowB ⟨480, 991, 224, 428, 704, 1406⟩ [(hh0, rr201), (hh154, rr221), (hh170, rr222), (hh171, rr223), (hh172, rr224), (hh173, rr225)] = true := by kernel_rfl
theorem flow_64 : flowB ⟨480, 991, 480, 991, 960, 1982⟩ [(hh0, rr201), (hh154, rr231), (hh177, rr232), (hh178, rr233), (hh179, rr234), (hh180, rr235)] = true := by kernel_rfl
theorem flow_68 : flowB ⟨992, 1000, 88, 95, 1080, 1095⟩ [(hh0, rr241), (hh185, rr247), (hh190, rr252), (hh194, rr253), (hh195, rr254), (hh196, rr255)] = true := by kernel_rfl
theorem flow_72 : flowB ⟨992, 1000, 429, 479, 1421, 1479⟩ [(hh0, rr241), (hh185, rr261), (hh201, rr266), (hh205, rr267), (hh206, rr270), (hh208, rr271)] = true := by kernel_rfl
end Go.Ev
