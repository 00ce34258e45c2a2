/- TopSpills: the flows. Printed by genS.py. -/
import Derived.Test.YtbmdocjeepnhmaaGreatDoorExRi
set_option linter.unusedVariables false
set_option linter.unusedSimpArgs false
set_option linter.unusedSectionVars false
namespace Go.Ev
open Go Go.RowKit Go.Proofs
set_option maxRecDepth 1000000
theorem flow_1 : flowB ⟨0, 31, 32, 87, 32, 118⟩ [(hh0, rr0), (hh1, rr6), (hh6, rr7), (hh7, rr8), (hh8, rr9), (hh9, rr10)] = true := by kernel_rfl
theorem flow_5 : flowB ⟨0, 31, 429, 479, 429, 510⟩ [(hh0, rr0), (hh1, rr20), (hh17, rr21), (hh18, rr22), (hh19, rr25), (hh21, rr26)] = true := by kernel_rfl
theorem flow_9 : flowB ⟨32, 87, 32, 87, 64, 174⟩ [(hh0, rr37), (hh30, rr43), (hh35, rr44), (hh36, rr45), (hh37, rr46), (hh38, rr47)] = true := by kernel_rfl
theorem flow_13 : flowB ⟨32, 87, 429, 479, 461, 566⟩ [(hh0, rr37), (hh30, rr57), (hh46, rr58), (hh47, rr59), (hh48, rr62), (hh50, rr63)] = true := by kernel_rfl
theorem flow_17 : flowB ⟨88, 95, 32, 87, 120, 182⟩ [(hh0, rr37), (hh30, rr43), (hh35, rr79), (hh63, rr80), (hh64, rr81), (hh65, rr82)] = true := by kernel_rfl
theorem flow_21 : flowB ⟨88, 95, 224, 428, 396, 523⟩ [(hh0, rr37), (hh30, rr92), (hh73, rr93), (hh74, rr94), (hh75, rr97), (hh77, rr98)] = true := by kernel_rfl
theorem flow_25 : flowB ⟨96, 223, 0, 31, 96, 254⟩ [(hh0, rr109), (hh86, rr110), (hh87, rr111), (hh88, rr112), (hh89, rr113), (hh90, rr114)] = true := by kernel_rfl
theorem flow_29 : flowB ⟨96, 223, 96, 223, 396, 446⟩ [(hh0, rr109), (hh86, rr124), (hh98, rr125), (hh99, rr126), (hh100, rr129), (hh102, rr130)] = true := by kernel_rfl
theorem flow_33 : flowB ⟨96, 223, 480, 991, 576, 1214⟩ [(hh0, rr109), (hh86, rr140), (hh109, rr141), (hh110, rr142), (hh111, rr143), (hh112, rr144)] = true := by kernel_rfl
theorem flow_37 : flowB ⟨224, 428, 88, 95, 312, 395⟩ [(hh0, rr150), (hh117, rr156), (hh122, rr161), (hh126, rr162), (hh127, rr163), (hh128, rr164)] = true := by kernel_rfl
theorem flow_41 : flowB ⟨224, 428, 224, 428, 448, 856⟩ [(hh0, rr150), (hh117, rr174), (hh135, rr175), (hh136, rr176), (hh137, rr177), (hh138, rr178)] = true := by kernel_rfl
theorem flow_45 : flowB ⟨224, 428, 992, 1000, 1216, 1406⟩ [(hh0, rr150), (hh117, rr186), (hh144, rr187), (hh145, rr188), (hh146, rr189), (hh147, rr190)] = true := by kernel_rfl
theorem flow_49 : flowB ⟨429, 479, 88, 95, 517, 574⟩ [(hh0, rr150), (hh117, rr156), (hh122, rr161), (hh126, rr162), (hh127, rr165), (hh129, rr166)] = true := by kernel_rfl
theorem flow_53 : flowB ⟨429, 479, 480, 991, 909, 1406⟩ [(hh0, rr150), (hh117, rr179), (hh139, rr180), (hh140, rr181), (hh141, rr182), (hh142, rr183)] = true := by kernel_rfl
theorem flow_57 : flowB ⟨480, 991, 32, 87, 512, 1078⟩ [(hh0, rr201), (hh154, rr207), (hh159, rr208), (hh160, rr209), (hh161, rr210), (hh162, rr211)] = true := by kernel_rfl
theorem flow_61 : flowB ⟨480, 991, 224, 428, 1407, 1419⟩ [(hh0, rr201), (hh154, rr221), (hh170, rr226), (hh174, rr227), (hh175, rr228), (hh176, rr229)] = true := by kernel_rfl
theorem flow_65 : flowB ⟨480, 991, 992, 1000, 1472, 1991⟩ [(hh0, rr201), (hh154, rr236), (hh181, rr237), (hh182, rr238), (hh183, rr239), (hh184, rr240)] = true := by kernel_rfl
theorem flow_69 : flowB ⟨992, 1000, 96, 223, 1088, 1223⟩ [(hh0, rr241), (hh185, rr256), (hh197, rr257), (hh198, rr258), (hh199, rr259), (hh200, rr260)] = true := by kernel_rfl
theorem flow_73 : flowB ⟨992, 1000, 480, 991, 1472, 1991⟩ [(hh0, rr241), (hh185, rr272), (hh209, rr273), (hh210, rr274), (hh211, rr275), (hh212, rr276)] = true := by kernel_rfl
end Go.Ev
