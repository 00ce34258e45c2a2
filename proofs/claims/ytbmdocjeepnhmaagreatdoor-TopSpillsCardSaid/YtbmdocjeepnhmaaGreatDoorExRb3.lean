/- TopSpills: the flows. Printed by genS.py. -/
import Derived.Test.YtbmdocjeepnhmaaGreatDoorExRi
set_option linter.unusedVariables false
set_option linter.unusedSimpArgs false
set_option linter.unusedSectionVars false
namespace Go.Ev
open Go Go.RowKit Go.Proofs
set_option maxRecDepth 1000000
theorem flow_3 : flowB ⟨0, 31, 96, 223, 96, 254⟩ [(hh0, rr0), (hh1, rr15), (hh13, rr16), (hh14, rr17), (hh15, rr18), (hh16, rr19)] = true := by kernel_rfl
theorem flow_7 : flowB ⟨0, 31, 992, 1000, 992, 1031⟩ [(hh0, rr0), (hh1, rr32), (hh26, rr33), (hh27, rr34), (hh28, rr35), (hh29, rr36)] = true := by kernel_rfl
theorem flow_11 : flowB ⟨32, 87, 96, 223, 128, 310⟩ [(hh0, rr37), (hh30, rr52), (hh42, rr53), (hh43, rr54), (hh44, rr55), (hh45, rr56)] = true := by kernel_rfl
theorem flow_15 : flowB ⟨32, 87, 992, 1000, 1024, 1087⟩ [(hh0, rr37), (hh30, rr69), (hh55, rr70), (hh56, rr71), (hh57, rr72), (hh58, rr73)] = true := by kernel_rfl
theorem flow_19 : flowB ⟨88, 95, 96, 223, 184, 318⟩ [(hh0, rr37), (hh30, rr87), (hh69, rr88), (hh70, rr89), (hh71, rr90), (hh72, rr91)] = true := by kernel_rfl
theorem flow_23 : flowB ⟨88, 95, 480, 991, 568, 1086⟩ [(hh0, rr37), (hh30, rr99), (hh78, rr100), (hh79, rr101), (hh80, rr102), (hh81, rr103)] = true := by kernel_rfl
theorem flow_27 : flowB ⟨96, 223, 88, 95, 184, 318⟩ [(hh0, rr109), (hh86, rr115), (hh91, rr120), (hh95, rr121), (hh96, rr122), (hh97, rr123)] = true := by kernel_rfl
theorem flow_31 : flowB ⟨96, 223, 224, 428, 396, 651⟩ [(hh0, rr109), (hh86, rr131), (hh103, rr132), (hh104, rr133), (hh105, rr136), (hh107, rr137)] = true := by kernel_rfl
theorem flow_35 : flowB ⟨224, 428, 0, 31, 224, 459⟩ [(hh0, rr150), (hh117, rr151), (hh118, rr152), (hh119, rr153), (hh120, rr154), (hh121, rr155)] = true := by kernel_rfl
theorem flow_39 : flowB ⟨224, 428, 96, 223, 320, 395⟩ [(hh0, rr150), (hh117, rr167), (hh130, rr168), (hh131, rr169), (hh132, rr170), (hh133, rr171)] = true := by kernel_rfl
theorem flow_43 : flowB ⟨224, 428, 480, 991, 704, 1406⟩ [(hh0, rr150), (hh117, rr179), (hh139, rr180), (hh140, rr181), (hh141, rr182), (hh142, rr183)] = true := by kernel_rfl
theorem flow_47 : flowB ⟨429, 479, 0, 31, 429, 510⟩ [(hh0, rr150), (hh117, rr151), (hh118, rr152), (hh119, rr153), (hh120, rr195), (hh151, rr196)] = true := by kernel_rfl
theorem flow_51 : flowB ⟨429, 479, 224, 428, 653, 907⟩ [(hh0, rr150), (hh117, rr174), (hh135, rr175), (hh136, rr176), (hh137, rr177), (hh138, rr178)] = true := by kernel_rfl
theorem flow_55 : flowB ⟨429, 479, 992, 1000, 1421, 1479⟩ [(hh0, rr150), (hh117, rr186), (hh144, rr191), (hh148, rr192), (hh149, rr193), (hh150, rr194)] = true := by kernel_rfl
theorem flow_59 : flowB ⟨480, 991, 96, 223, 576, 1214⟩ [(hh0, rr201), (hh154, rr216), (hh166, rr217), (hh167, rr218), (hh168, rr219), (hh169, rr220)] = true := by kernel_rfl
theorem flow_63 : flowB ⟨480, 991, 429, 479, 1407, 1470⟩ [(hh0, rr201), (hh154, rr221), (hh170, rr226), (hh174, rr227), (hh175, rr228), (hh176, rr230)] = true := by kernel_rfl
theorem flow_67 : flowB ⟨992, 1000, 32, 87, 1024, 1087⟩ [(hh0, rr241), (hh185, rr247), (hh190, rr248), (hh191, rr249), (hh192, rr250), (hh193, rr251)] = true := by kernel_rfl
theorem flow_71 : flowB ⟨992, 1000, 224, 428, 1407, 1428⟩ [(hh0, rr241), (hh185, rr261), (hh201, rr266), (hh205, rr267), (hh206, rr268), (hh207, rr269)] = true := by kernel_rfl
end Go.Ev
