/- TopSpills: the flows. Printed by genS.py. -/
import Derived.Test.YtbmdocjeepnhmaaGreatDoorExRi
set_option linter.unusedVariables false
set_option linter.unusedSimpArgs false
set_option linter.unusedSectionVars false
namespace Go.Ev
open Go Go.RowKit Go.Proofs
set_option maxRecDepth 1000000
theorem flow_2 : flowB ⟨0, 31, 88, 95, 88, 126⟩ [(hh0, rr0), (hh1, rr6), (hh6, rr11), (hh10, rr12), (hh11, rr13), (hh12, rr14)] = true := by kernel_rfl
theorem flow_6 : flowB ⟨0, 31, 480, 991, 480, 1022⟩ [(hh0, rr0), (hh1, rr27), (hh22, rr28), (hh23, rr29), (hh24, rr30), (hh25, rr31)] = true := by kernel_rfl
theorem flow_10 : flowB ⟨32, 87, 88, 95, 120, 182⟩ [(hh0, rr37), (hh30, rr43), (hh35, rr48), (hh39, rr49), (hh40, rr50), (hh41, rr51)] = true := by kernel_rfl
theorem flow_14 : flowB ⟨32, 87, 480, 991, 512, 1078⟩ [(hh0, rr37), (hh30, rr64), (hh51, rr65), (hh52, rr66), (hh53, rr67), (hh54, rr68)] = true := by kernel_rfl
theorem flow_18 : flowB ⟨88, 95, 88, 95, 176, 190⟩ [(hh0, rr37), (hh30, rr43), (hh35, rr83), (hh66, rr84), (hh67, rr85), (hh68, rr86)] = true := by kernel_rfl
theorem flow_22 : flowB ⟨88, 95, 429, 479, 517, 574⟩ [(hh0, rr37), (hh30, rr92), (hh73, rr93), (hh74, rr94), (hh75, rr97), (hh77, rr98)] = true := by kernel_rfl
theorem flow_26 : flowB ⟨96, 223, 32, 87, 128, 310⟩ [(hh0, rr109), (hh86, rr115), (hh91, rr116), (hh92, rr117), (hh93, rr118), (hh94, rr119)] = true := by kernel_rfl
theorem flow_30 : flowB ⟨96, 223, 224, 428, 320, 395⟩ [(hh0, rr109), (hh86, rr131), (hh103, rr132), (hh104, rr133), (hh105, rr134), (hh106, rr135)] = true := by kernel_rfl
theorem flow_34 : flowB ⟨96, 223, 992, 1000, 1088, 1223⟩ [(hh0, rr109), (hh86, rr145), (hh113, rr146), (hh114, rr147), (hh115, rr148), (hh116, rr149)] = true := by kernel_rfl
theorem flow_38 : flowB ⟨224, 428, 88, 95, 396, 523⟩ [(hh0, rr150), (hh117, rr156), (hh122, rr161), (hh126, rr162), (hh127, rr165), (hh129, rr166)] = true := by kernel_rfl
theorem flow_42 : flowB ⟨224, 428, 429, 479, 653, 907⟩ [(hh0, rr150), (hh117, rr174), (hh135, rr175), (hh136, rr176), (hh137, rr177), (hh138, rr178)] = true := by kernel_rfl
theorem flow_46 : flowB ⟨224, 428, 992, 1000, 1407, 1428⟩ [(hh0, rr150), (hh117, rr186), (hh144, rr191), (hh148, rr192), (hh149, rr193), (hh150, rr194)] = true := by kernel_rfl
theorem flow_50 : flowB ⟨429, 479, 96, 223, 525, 702⟩ [(hh0, rr150), (hh117, rr167), (hh130, rr168), (hh131, rr169), (hh132, rr199), (hh153, rr200)] = true := by kernel_rfl
theorem flow_54 : flowB ⟨429, 479, 480, 991, 1407, 1470⟩ [(hh0, rr150), (hh117, rr179), (hh139, rr180), (hh140, rr181), (hh141, rr184), (hh143, rr185)] = true := by kernel_rfl
theorem flow_58 : flowB ⟨480, 991, 88, 95, 568, 1086⟩ [(hh0, rr201), (hh154, rr207), (hh159, rr212), (hh163, rr213), (hh164, rr214), (hh165, rr215)] = true := by kernel_rfl
theorem flow_62 : flowB ⟨480, 991, 429, 479, 909, 1406⟩ [(hh0, rr201), (hh154, rr221), (hh170, rr222), (hh171, rr223), (hh172, rr224), (hh173, rr225)] = true := by kernel_rfl
theorem flow_66 : flowB ⟨992, 1000, 0, 31, 992, 1031⟩ [(hh0, rr241), (hh185, rr242), (hh186, rr243), (hh187, rr244), (hh188, rr245), (hh189, rr246)] = true := by kernel_rfl
theorem flow_70 : flowB ⟨992, 1000, 224, 428, 1216, 1406⟩ [(hh0, rr241), (hh185, rr261), (hh201, rr262), (hh202, rr263), (hh203, rr264), (hh204, rr265)] = true := by kernel_rfl
theorem flow_74 : flowB ⟨992, 1000, 992, 1000, 1984, 2000⟩ [(hh0, rr241), (hh185, rr277), (hh213, rr278), (hh214, rr279), (hh215, rr280), (hh216, rr281)] = true := by kernel_rfl
end Go.Ev
