/- TopSpills tells true, whatever the texts. Printed by genT4.py. -/
import Derived.Test.YtbmdocjeepnhmaaGreatDoorExTh
import Derived.Test.YtbmdocjeepnhmaaGreatDoorExRs0
import Derived.Test.YtbmdocjeepnhmaaGreatDoorExRs1
import Derived.Test.YtbmdocjeepnhmaaGreatDoorExRs2
import Derived.Test.YtbmdocjeepnhmaaGreatDoorExRs3
import Derived.Test.YtbmdocjeepnhmaaGreatDoorExRs4
import Derived.Test.YtbmdocjeepnhmaaGreatDoorExRs5
import Derived.Test.YtbmdocjeepnhmaaGreatDoorExRs6
import Derived.Test.YtbmdocjeepnhmaaGreatDoorExRs7
import Derived.Test.YtbmdocjeepnhmaaGreatDoorExRs8
import Derived.Test.YtbmdocjeepnhmaaGreatDoorExRs9
import Derived.Test.YtbmdocjeepnhmaaGreatDoorExRs10
import Derived.Test.YtbmdocjeepnhmaaGreatDoorExRs11
import Derived.Test.YtbmdocjeepnhmaaGreatDoorExRs12
import Derived.Test.YtbmdocjeepnhmaaGreatDoorExRs13
import Derived.Test.YtbmdocjeepnhmaaGreatDoorExRb0
import Derived.Test.YtbmdocjeepnhmaaGreatDoorExRb1
import Derived.Test.YtbmdocjeepnhmaaGreatDoorExRb2
import Derived.Test.YtbmdocjeepnhmaaGreatDoorExRb3
set_option linter.unusedVariables false
set_option linter.unusedSimpArgs false
set_option linter.unusedSectionVars false
namespace Go.Ev
open Go Go.RowKit Go.Proofs
set_option maxRecDepth 100000
theorem fl_0 : FlowOk ⟨0, 31, 0, 31, 0, 62⟩ := ⟨_, all6 (step_of fr_0 run_0 rfl rfl rfl) (step_of fr_1 run_1 rfl rfl rfl) (step_of fr_2 run_2 rfl rfl rfl) (step_of fr_3 run_3 rfl rfl rfl) (step_of fr_4 run_4 rfl rfl rfl) (step_of fr_5 run_5 rfl rfl rfl), flow_0⟩
theorem fl_1 : FlowOk ⟨0, 31, 32, 87, 32, 118⟩ := ⟨_, all6 (step_of fr_0 run_0 rfl rfl rfl) (step_of fr_6 run_6 rfl rfl rfl) (step_of fr_7 run_7 rfl rfl rfl) (step_of fr_8 run_8 rfl rfl rfl) (step_of fr_9 run_9 rfl rfl rfl) (step_of fr_10 run_10 rfl rfl rfl), flow_1⟩
theorem fl_2 : FlowOk ⟨0, 31, 88, 95, 88, 126⟩ := ⟨_, all6 (step_of fr_0 run_0 rfl rfl rfl) (step_of fr_6 run_6 rfl rfl rfl) (step_of fr_11 run_11 rfl rfl rfl) (step_of fr_12 run_12 rfl rfl rfl) (step_of fr_13 run_13 rfl rfl rfl) (step_of fr_14 run_14 rfl rfl rfl), flow_2⟩
theorem fl_3 : FlowOk ⟨0, 31, 96, 223, 96, 254⟩ := ⟨_, all6 (step_of fr_0 run_0 rfl rfl rfl) (step_of fr_15 run_15 rfl rfl rfl) (step_of fr_16 run_16 rfl rfl rfl) (step_of fr_17 run_17 rfl rfl rfl) (step_of fr_18 run_18 rfl rfl rfl) (step_of fr_19 run_19 rfl rfl rfl), flow_3⟩
theorem fl_4 : FlowOk ⟨0, 31, 224, 428, 224, 459⟩ := ⟨_, all6 (step_of fr_0 run_0_1 rfl rfl rfl) (step_of fr_20 run_20 rfl rfl rfl) (step_of fr_21 run_21 rfl rfl rfl) (step_of fr_22 run_22 rfl rfl rfl) (step_of fr_23 run_23 rfl rfl rfl) (step_of fr_24 run_24 rfl rfl rfl), flow_4⟩
theorem fl_5 : FlowOk ⟨0, 31, 429, 479, 429, 510⟩ := ⟨_, all6 (step_of fr_0 run_0_1 rfl rfl rfl) (step_of fr_20 run_20 rfl rfl rfl) (step_of fr_21 run_21 rfl rfl rfl) (step_of fr_22 run_22 rfl rfl rfl) (step_of fr_25 run_25 rfl rfl rfl) (step_of fr_26 run_26 rfl rfl rfl), flow_5⟩
theorem fl_6 : FlowOk ⟨0, 31, 480, 991, 480, 1022⟩ := ⟨_, all6 (step_of fr_0 run_0_1 rfl rfl rfl) (step_of fr_27 run_27 rfl rfl rfl) (step_of fr_28 run_28 rfl rfl rfl) (step_of fr_29 run_29 rfl rfl rfl) (step_of fr_30 run_30 rfl rfl rfl) (step_of fr_31 run_31 rfl rfl rfl), flow_6⟩
theorem fl_7 : FlowOk ⟨0, 31, 992, 1000, 992, 1031⟩ := ⟨_, all6 (step_of fr_0 run_0_1 rfl rfl rfl) (step_of fr_32 run_32 rfl rfl rfl) (step_of fr_33 run_33 rfl rfl rfl) (step_of fr_34 run_34 rfl rfl rfl) (step_of fr_35 run_35 rfl rfl rfl) (step_of fr_36 run_36 rfl rfl rfl), flow_7⟩
theorem fl_8 : FlowOk ⟨32, 87, 0, 31, 32, 118⟩ := ⟨_, all6 (step_of fr_37 run_37 rfl rfl rfl) (step_of fr_38 run_38 rfl rfl rfl) (step_of fr_39 run_39 rfl rfl rfl) (step_of fr_40 run_40 rfl rfl rfl) (step_of fr_41 run_41 rfl rfl rfl) (step_of fr_42 run_42 rfl rfl rfl), flow_8⟩
theorem fl_9 : FlowOk ⟨32, 87, 32, 87, 64, 174⟩ := ⟨_, all6 (step_of fr_37 run_37 rfl rfl rfl) (step_of fr_43 run_43 rfl rfl rfl) (step_of fr_44 run_44 rfl rfl rfl) (step_of fr_45 run_45 rfl rfl rfl) (step_of fr_46 run_46 rfl rfl rfl) (step_of fr_47 run_47 rfl rfl rfl), flow_9⟩
theorem fl_10 : FlowOk ⟨32, 87, 88, 95, 120, 182⟩ := ⟨_, all6 (step_of fr_37 run_37 rfl rfl rfl) (step_of fr_43 run_43 rfl rfl rfl) (step_of fr_48 run_48 rfl rfl rfl) (step_of fr_49 run_49 rfl rfl rfl) (step_of fr_50 run_50 rfl rfl rfl) (step_of fr_51 run_51 rfl rfl rfl), flow_10⟩
theorem fl_11 : FlowOk ⟨32, 87, 96, 223, 128, 310⟩ := ⟨_, all6 (step_of fr_37 run_37 rfl rfl rfl) (step_of fr_52 run_52 rfl rfl rfl) (step_of fr_53 run_53 rfl rfl rfl) (step_of fr_54 run_54 rfl rfl rfl) (step_of fr_55 run_55 rfl rfl rfl) (step_of fr_56 run_56 rfl rfl rfl), flow_11⟩
theorem fl_12 : FlowOk ⟨32, 87, 224, 428, 256, 515⟩ := ⟨_, all6 (step_of fr_37 run_37_1 rfl rfl rfl) (step_of fr_57 run_57 rfl rfl rfl) (step_of fr_58 run_58 rfl rfl rfl) (step_of fr_59 run_59 rfl rfl rfl) (step_of fr_60 run_60 rfl rfl rfl) (step_of fr_61 run_61 rfl rfl rfl), flow_12⟩
theorem fl_13 : FlowOk ⟨32, 87, 429, 479, 461, 566⟩ := ⟨_, all6 (step_of fr_37 run_37_1 rfl rfl rfl) (step_of fr_57 run_57 rfl rfl rfl) (step_of fr_58 run_58 rfl rfl rfl) (step_of fr_59 run_59 rfl rfl rfl) (step_of fr_62 run_62 rfl rfl rfl) (step_of fr_63 run_63 rfl rfl rfl), flow_13⟩
theorem fl_14 : FlowOk ⟨32, 87, 480, 991, 512, 1078⟩ := ⟨_, all6 (step_of fr_37 run_37_1 rfl rfl rfl) (step_of fr_64 run_64 rfl rfl rfl) (step_of fr_65 run_65 rfl rfl rfl) (step_of fr_66 run_66 rfl rfl rfl) (step_of fr_67 run_67 rfl rfl rfl) (step_of fr_68 run_68 rfl rfl rfl), flow_14⟩
theorem fl_15 : FlowOk ⟨32, 87, 992, 1000, 1024, 1087⟩ := ⟨_, all6 (step_of fr_37 run_37_1 rfl rfl rfl) (step_of fr_69 run_69 rfl rfl rfl) (step_of fr_70 run_70 rfl rfl rfl) (step_of fr_71 run_71 rfl rfl rfl) (step_of fr_72 run_72 rfl rfl rfl) (step_of fr_73 run_73 rfl rfl rfl), flow_15⟩
theorem fl_16 : FlowOk ⟨88, 95, 0, 31, 88, 126⟩ := ⟨_, all6 (step_of fr_37 run_37 rfl rfl rfl) (step_of fr_74 run_74 rfl rfl rfl) (step_of fr_75 run_75 rfl rfl rfl) (step_of fr_76 run_76 rfl rfl rfl) (step_of fr_77 run_77 rfl rfl rfl) (step_of fr_78 run_78 rfl rfl rfl), flow_16⟩
theorem fl_17 : FlowOk ⟨88, 95, 32, 87, 120, 182⟩ := ⟨_, all6 (step_of fr_37 run_37 rfl rfl rfl) (step_of fr_43 run_43 rfl rfl rfl) (step_of fr_79 run_79 rfl rfl rfl) (step_of fr_80 run_80 rfl rfl rfl) (step_of fr_81 run_81 rfl rfl rfl) (step_of fr_82 run_82 rfl rfl rfl), flow_17⟩
theorem fl_18 : FlowOk ⟨88, 95, 88, 95, 176, 190⟩ := ⟨_, all6 (step_of fr_37 run_37 rfl rfl rfl) (step_of fr_43 run_43 rfl rfl rfl) (step_of fr_83 run_83 rfl rfl rfl) (step_of fr_84 run_84 rfl rfl rfl) (step_of fr_85 run_85 rfl rfl rfl) (step_of fr_86 run_86 rfl rfl rfl), flow_18⟩
theorem fl_19 : FlowOk ⟨88, 95, 96, 223, 184, 318⟩ := ⟨_, all6 (step_of fr_37 run_37 rfl rfl rfl) (step_of fr_87 run_87 rfl rfl rfl) (step_of fr_88 run_88 rfl rfl rfl) (step_of fr_89 run_89 rfl rfl rfl) (step_of fr_90 run_90 rfl rfl rfl) (step_of fr_91 run_91 rfl rfl rfl), flow_19⟩
theorem fl_20 : FlowOk ⟨88, 95, 224, 428, 312, 395⟩ := ⟨_, all6 (step_of fr_37 run_37_1 rfl rfl rfl) (step_of fr_92 run_92 rfl rfl rfl) (step_of fr_93 run_93 rfl rfl rfl) (step_of fr_94 run_94 rfl rfl rfl) (step_of fr_95 run_95 rfl rfl rfl) (step_of fr_96 run_96 rfl rfl rfl), flow_20⟩
theorem fl_21 : FlowOk ⟨88, 95, 224, 428, 396, 523⟩ := ⟨_, all6 (step_of fr_37 run_37_1 rfl rfl rfl) (step_of fr_92 run_92 rfl rfl rfl) (step_of fr_93 run_93 rfl rfl rfl) (step_of fr_94 run_94 rfl rfl rfl) (step_of fr_97 run_97 rfl rfl rfl) (step_of fr_98 run_98 rfl rfl rfl), flow_21⟩
theorem fl_22 : FlowOk ⟨88, 95, 429, 479, 517, 574⟩ := ⟨_, all6 (step_of fr_37 run_37_1 rfl rfl rfl) (step_of fr_92 run_92 rfl rfl rfl) (step_of fr_93 run_93 rfl rfl rfl) (step_of fr_94 run_94 rfl rfl rfl) (step_of fr_97 run_97 rfl rfl rfl) (step_of fr_98 run_98 rfl rfl rfl), flow_22⟩
theorem fl_23 : FlowOk ⟨88, 95, 480, 991, 568, 1086⟩ := ⟨_, all6 (step_of fr_37 run_37_1 rfl rfl rfl) (step_of fr_99 run_99 rfl rfl rfl) (step_of fr_100 run_100 rfl rfl rfl) (step_of fr_101 run_101 rfl rfl rfl) (step_of fr_102 run_102 rfl rfl rfl) (step_of fr_103 run_103 rfl rfl rfl), flow_23⟩
theorem fl_24 : FlowOk ⟨88, 95, 992, 1000, 1080, 1095⟩ := ⟨_, all6 (step_of fr_37 run_37_1 rfl rfl rfl) (step_of fr_104 run_104 rfl rfl rfl) (step_of fr_105 run_105 rfl rfl rfl) (step_of fr_106 run_106 rfl rfl rfl) (step_of fr_107 run_107 rfl rfl rfl) (step_of fr_108 run_108 rfl rfl rfl), flow_24⟩
theorem fl_25 : FlowOk ⟨96, 223, 0, 31, 96, 254⟩ := ⟨_, all6 (step_of fr_109 run_109 rfl rfl rfl) (step_of fr_110 run_110 rfl rfl rfl) (step_of fr_111 run_111 rfl rfl rfl) (step_of fr_112 run_112 rfl rfl rfl) (step_of fr_113 run_113 rfl rfl rfl) (step_of fr_114 run_114 rfl rfl rfl), flow_25⟩
theorem fl_26 : FlowOk ⟨96, 223, 32, 87, 128, 310⟩ := ⟨_, all6 (step_of fr_109 run_109 rfl rfl rfl) (step_of fr_115 run_115 rfl rfl rfl) (step_of fr_116 run_116 rfl rfl rfl) (step_of fr_117 run_117 rfl rfl rfl) (step_of fr_118 run_118 rfl rfl rfl) (step_of fr_119 run_119 rfl rfl rfl), flow_26⟩
theorem fl_27 : FlowOk ⟨96, 223, 88, 95, 184, 318⟩ := ⟨_, all6 (step_of fr_109 run_109 rfl rfl rfl) (step_of fr_115 run_115 rfl rfl rfl) (step_of fr_120 run_120 rfl rfl rfl) (step_of fr_121 run_121 rfl rfl rfl) (step_of fr_122 run_122 rfl rfl rfl) (step_of fr_123 run_123 rfl rfl rfl), flow_27⟩
theorem fl_28 : FlowOk ⟨96, 223, 96, 223, 192, 395⟩ := ⟨_, all6 (step_of fr_109 run_109 rfl rfl rfl) (step_of fr_124 run_124 rfl rfl rfl) (step_of fr_125 run_125 rfl rfl rfl) (step_of fr_126 run_126 rfl rfl rfl) (step_of fr_127 run_127 rfl rfl rfl) (step_of fr_128 run_128 rfl rfl rfl), flow_28⟩
theorem fl_29 : FlowOk ⟨96, 223, 96, 223, 396, 446⟩ := ⟨_, all6 (step_of fr_109 run_109 rfl rfl rfl) (step_of fr_124 run_124 rfl rfl rfl) (step_of fr_125 run_125 rfl rfl rfl) (step_of fr_126 run_126 rfl rfl rfl) (step_of fr_129 run_129 rfl rfl rfl) (step_of fr_130 run_130 rfl rfl rfl), flow_29⟩
theorem fl_30 : FlowOk ⟨96, 223, 224, 428, 320, 395⟩ := ⟨_, all6 (step_of fr_109 run_109_1 rfl rfl rfl) (step_of fr_131 run_131 rfl rfl rfl) (step_of fr_132 run_132 rfl rfl rfl) (step_of fr_133 run_133 rfl rfl rfl) (step_of fr_134 run_134 rfl rfl rfl) (step_of fr_135 run_135 rfl rfl rfl), flow_30⟩
theorem fl_31 : FlowOk ⟨96, 223, 224, 428, 396, 651⟩ := ⟨_, all6 (step_of fr_109 run_109_1 rfl rfl rfl) (step_of fr_131 run_131 rfl rfl rfl) (step_of fr_132 run_132 rfl rfl rfl) (step_of fr_133 run_133 rfl rfl rfl) (step_of fr_136 run_136 rfl rfl rfl) (step_of fr_137 run_137 rfl rfl rfl), flow_31⟩
theorem fl_32 : FlowOk ⟨96, 223, 429, 479, 525, 702⟩ := ⟨_, all6 (step_of fr_109 run_109_1 rfl rfl rfl) (step_of fr_131 run_131 rfl rfl rfl) (step_of fr_132 run_132 rfl rfl rfl) (step_of fr_133 run_133 rfl rfl rfl) (step_of fr_138 run_138 rfl rfl rfl) (step_of fr_139 run_139 rfl rfl rfl), flow_32⟩
theorem fl_33 : FlowOk ⟨96, 223, 480, 991, 576, 1214⟩ := ⟨_, all6 (step_of fr_109 run_109_1 rfl rfl rfl) (step_of fr_140 run_140 rfl rfl rfl) (step_of fr_141 run_141 rfl rfl rfl) (step_of fr_142 run_142 rfl rfl rfl) (step_of fr_143 run_143 rfl rfl rfl) (step_of fr_144 run_144 rfl rfl rfl), flow_33⟩
theorem fl_34 : FlowOk ⟨96, 223, 992, 1000, 1088, 1223⟩ := ⟨_, all6 (step_of fr_109 run_109_1 rfl rfl rfl) (step_of fr_145 run_145 rfl rfl rfl) (step_of fr_146 run_146 rfl rfl rfl) (step_of fr_147 run_147 rfl rfl rfl) (step_of fr_148 run_148 rfl rfl rfl) (step_of fr_149 run_149 rfl rfl rfl), flow_34⟩
theorem fl_35 : FlowOk ⟨224, 428, 0, 31, 224, 459⟩ := ⟨_, all6 (step_of fr_150 run_150 rfl rfl rfl) (step_of fr_151 run_151 rfl rfl rfl) (step_of fr_152 run_152 rfl rfl rfl) (step_of fr_153 run_153 rfl rfl rfl) (step_of fr_154 run_154 rfl rfl rfl) (step_of fr_155 run_155 rfl rfl rfl), flow_35⟩
theorem fl_36 : FlowOk ⟨224, 428, 32, 87, 256, 515⟩ := ⟨_, all6 (step_of fr_150 run_150 rfl rfl rfl) (step_of fr_156 run_156 rfl rfl rfl) (step_of fr_157 run_157 rfl rfl rfl) (step_of fr_158 run_158 rfl rfl rfl) (step_of fr_159 run_159 rfl rfl rfl) (step_of fr_160 run_160 rfl rfl rfl), flow_36⟩
theorem fl_37 : FlowOk ⟨224, 428, 88, 95, 312, 395⟩ := ⟨_, all6 (step_of fr_150 run_150 rfl rfl rfl) (step_of fr_156 run_156 rfl rfl rfl) (step_of fr_161 run_161 rfl rfl rfl) (step_of fr_162 run_162 rfl rfl rfl) (step_of fr_163 run_163 rfl rfl rfl) (step_of fr_164 run_164 rfl rfl rfl), flow_37⟩
theorem fl_38 : FlowOk ⟨224, 428, 88, 95, 396, 523⟩ := ⟨_, all6 (step_of fr_150 run_150 rfl rfl rfl) (step_of fr_156 run_156 rfl rfl rfl) (step_of fr_161 run_161 rfl rfl rfl) (step_of fr_162 run_162 rfl rfl rfl) (step_of fr_165 run_165 rfl rfl rfl) (step_of fr_166 run_166 rfl rfl rfl), flow_38⟩
theorem fl_39 : FlowOk ⟨224, 428, 96, 223, 320, 395⟩ := ⟨_, all6 (step_of fr_150 run_150 rfl rfl rfl) (step_of fr_167 run_167 rfl rfl rfl) (step_of fr_168 run_168 rfl rfl rfl) (step_of fr_169 run_169 rfl rfl rfl) (step_of fr_170 run_170 rfl rfl rfl) (step_of fr_171 run_171 rfl rfl rfl), flow_39⟩
theorem fl_40 : FlowOk ⟨224, 428, 96, 223, 396, 651⟩ := ⟨_, all6 (step_of fr_150 run_150 rfl rfl rfl) (step_of fr_167 run_167 rfl rfl rfl) (step_of fr_168 run_168 rfl rfl rfl) (step_of fr_169 run_169 rfl rfl rfl) (step_of fr_172 run_172 rfl rfl rfl) (step_of fr_173 run_173 rfl rfl rfl), flow_40⟩
theorem fl_41 : FlowOk ⟨224, 428, 224, 428, 448, 856⟩ := ⟨_, all6 (step_of fr_150 run_150_1 rfl rfl rfl) (step_of fr_174 run_174 rfl rfl rfl) (step_of fr_175 run_175 rfl rfl rfl) (step_of fr_176 run_176 rfl rfl rfl) (step_of fr_177 run_177 rfl rfl rfl) (step_of fr_178 run_178 rfl rfl rfl), flow_41⟩
theorem fl_42 : FlowOk ⟨224, 428, 429, 479, 653, 907⟩ := ⟨_, all6 (step_of fr_150 run_150_1 rfl rfl rfl) (step_of fr_174 run_174 rfl rfl rfl) (step_of fr_175 run_175 rfl rfl rfl) (step_of fr_176 run_176 rfl rfl rfl) (step_of fr_177 run_177 rfl rfl rfl) (step_of fr_178 run_178 rfl rfl rfl), flow_42⟩
theorem fl_43 : FlowOk ⟨224, 428, 480, 991, 704, 1406⟩ := ⟨_, all6 (step_of fr_150 run_150_1 rfl rfl rfl) (step_of fr_179 run_179 rfl rfl rfl) (step_of fr_180 run_180 rfl rfl rfl) (step_of fr_181 run_181 rfl rfl rfl) (step_of fr_182 run_182 rfl rfl rfl) (step_of fr_183 run_183 rfl rfl rfl), flow_43⟩
theorem fl_44 : FlowOk ⟨224, 428, 480, 991, 1407, 1419⟩ := ⟨_, all6 (step_of fr_150 run_150_1 rfl rfl rfl) (step_of fr_179 run_179 rfl rfl rfl) (step_of fr_180 run_180 rfl rfl rfl) (step_of fr_181 run_181 rfl rfl rfl) (step_of fr_184 run_184 rfl rfl rfl) (step_of fr_185 run_185 rfl rfl rfl), flow_44⟩
theorem fl_45 : FlowOk ⟨224, 428, 992, 1000, 1216, 1406⟩ := ⟨_, all6 (step_of fr_150 run_150_1 rfl rfl rfl) (step_of fr_186 run_186 rfl rfl rfl) (step_of fr_187 run_187 rfl rfl rfl) (step_of fr_188 run_188 rfl rfl rfl) (step_of fr_189 run_189 rfl rfl rfl) (step_of fr_190 run_190 rfl rfl rfl), flow_45⟩
theorem fl_46 : FlowOk ⟨224, 428, 992, 1000, 1407, 1428⟩ := ⟨_, all6 (step_of fr_150 run_150_1 rfl rfl rfl) (step_of fr_186 run_186 rfl rfl rfl) (step_of fr_191 run_191 rfl rfl rfl) (step_of fr_192 run_192 rfl rfl rfl) (step_of fr_193 run_193 rfl rfl rfl) (step_of fr_194 run_194 rfl rfl rfl), flow_46⟩
theorem fl_47 : FlowOk ⟨429, 479, 0, 31, 429, 510⟩ := ⟨_, all6 (step_of fr_150 run_150 rfl rfl rfl) (step_of fr_151 run_151 rfl rfl rfl) (step_of fr_152 run_152 rfl rfl rfl) (step_of fr_153 run_153 rfl rfl rfl) (step_of fr_195 run_195 rfl rfl rfl) (step_of fr_196 run_196 rfl rfl rfl), flow_47⟩
theorem fl_48 : FlowOk ⟨429, 479, 32, 87, 461, 566⟩ := ⟨_, all6 (step_of fr_150 run_150 rfl rfl rfl) (step_of fr_156 run_156 rfl rfl rfl) (step_of fr_157 run_157 rfl rfl rfl) (step_of fr_158 run_158 rfl rfl rfl) (step_of fr_197 run_197 rfl rfl rfl) (step_of fr_198 run_198 rfl rfl rfl), flow_48⟩
theorem fl_49 : FlowOk ⟨429, 479, 88, 95, 517, 574⟩ := ⟨_, all6 (step_of fr_150 run_150 rfl rfl rfl) (step_of fr_156 run_156 rfl rfl rfl) (step_of fr_161 run_161 rfl rfl rfl) (step_of fr_162 run_162 rfl rfl rfl) (step_of fr_165 run_165 rfl rfl rfl) (step_of fr_166 run_166 rfl rfl rfl), flow_49⟩
theorem fl_50 : FlowOk ⟨429, 479, 96, 223, 525, 702⟩ := ⟨_, all6 (step_of fr_150 run_150 rfl rfl rfl) (step_of fr_167 run_167 rfl rfl rfl) (step_of fr_168 run_168 rfl rfl rfl) (step_of fr_169 run_169 rfl rfl rfl) (step_of fr_199 run_199 rfl rfl rfl) (step_of fr_200 run_200 rfl rfl rfl), flow_50⟩
theorem fl_51 : FlowOk ⟨429, 479, 224, 428, 653, 907⟩ := ⟨_, all6 (step_of fr_150 run_150_1 rfl rfl rfl) (step_of fr_174 run_174 rfl rfl rfl) (step_of fr_175 run_175 rfl rfl rfl) (step_of fr_176 run_176 rfl rfl rfl) (step_of fr_177 run_177 rfl rfl rfl) (step_of fr_178 run_178 rfl rfl rfl), flow_51⟩
theorem fl_52 : FlowOk ⟨429, 479, 429, 479, 858, 958⟩ := ⟨_, all6 (step_of fr_150 run_150_1 rfl rfl rfl) (step_of fr_174 run_174 rfl rfl rfl) (step_of fr_175 run_175 rfl rfl rfl) (step_of fr_176 run_176 rfl rfl rfl) (step_of fr_177 run_177 rfl rfl rfl) (step_of fr_178 run_178 rfl rfl rfl), flow_52⟩
theorem fl_53 : FlowOk ⟨429, 479, 480, 991, 909, 1406⟩ := ⟨_, all6 (step_of fr_150 run_150_1 rfl rfl rfl) (step_of fr_179 run_179 rfl rfl rfl) (step_of fr_180 run_180 rfl rfl rfl) (step_of fr_181 run_181 rfl rfl rfl) (step_of fr_182 run_182 rfl rfl rfl) (step_of fr_183 run_183 rfl rfl rfl), flow_53⟩
theorem fl_54 : FlowOk ⟨429, 479, 480, 991, 1407, 1470⟩ := ⟨_, all6 (step_of fr_150 run_150_1 rfl rfl rfl) (step_of fr_179 run_179 rfl rfl rfl) (step_of fr_180 run_180 rfl rfl rfl) (step_of fr_181 run_181 rfl rfl rfl) (step_of fr_184 run_184 rfl rfl rfl) (step_of fr_185 run_185 rfl rfl rfl), flow_54⟩
theorem fl_55 : FlowOk ⟨429, 479, 992, 1000, 1421, 1479⟩ := ⟨_, all6 (step_of fr_150 run_150_1 rfl rfl rfl) (step_of fr_186 run_186 rfl rfl rfl) (step_of fr_191 run_191 rfl rfl rfl) (step_of fr_192 run_192 rfl rfl rfl) (step_of fr_193 run_193 rfl rfl rfl) (step_of fr_194 run_194 rfl rfl rfl), flow_55⟩
theorem fl_56 : FlowOk ⟨480, 991, 0, 31, 480, 1022⟩ := ⟨_, all6 (step_of fr_201 run_201 rfl rfl rfl) (step_of fr_202 run_202 rfl rfl rfl) (step_of fr_203 run_203 rfl rfl rfl) (step_of fr_204 run_204 rfl rfl rfl) (step_of fr_205 run_205 rfl rfl rfl) (step_of fr_206 run_206 rfl rfl rfl), flow_56⟩
theorem fl_57 : FlowOk ⟨480, 991, 32, 87, 512, 1078⟩ := ⟨_, all6 (step_of fr_201 run_201 rfl rfl rfl) (step_of fr_207 run_207 rfl rfl rfl) (step_of fr_208 run_208 rfl rfl rfl) (step_of fr_209 run_209 rfl rfl rfl) (step_of fr_210 run_210 rfl rfl rfl) (step_of fr_211 run_211 rfl rfl rfl), flow_57⟩
theorem fl_58 : FlowOk ⟨480, 991, 88, 95, 568, 1086⟩ := ⟨_, all6 (step_of fr_201 run_201 rfl rfl rfl) (step_of fr_207 run_207 rfl rfl rfl) (step_of fr_212 run_212 rfl rfl rfl) (step_of fr_213 run_213 rfl rfl rfl) (step_of fr_214 run_214 rfl rfl rfl) (step_of fr_215 run_215 rfl rfl rfl), flow_58⟩
theorem fl_59 : FlowOk ⟨480, 991, 96, 223, 576, 1214⟩ := ⟨_, all6 (step_of fr_201 run_201 rfl rfl rfl) (step_of fr_216 run_216 rfl rfl rfl) (step_of fr_217 run_217 rfl rfl rfl) (step_of fr_218 run_218 rfl rfl rfl) (step_of fr_219 run_219 rfl rfl rfl) (step_of fr_220 run_220 rfl rfl rfl), flow_59⟩
theorem fl_60 : FlowOk ⟨480, 991, 224, 428, 704, 1406⟩ := ⟨_, all6 (step_of fr_201 run_201_1 rfl rfl rfl) (step_of fr_221 run_221 rfl rfl rfl) (step_of fr_222 run_222 rfl rfl rfl) (step_of fr_223 run_223 rfl rfl rfl) (step_of fr_224 run_224 rfl rfl rfl) (step_of fr_225 run_225 rfl rfl rfl), flow_60⟩
theorem fl_61 : FlowOk ⟨480, 991, 224, 428, 1407, 1419⟩ := ⟨_, all6 (step_of fr_201 run_201_1 rfl rfl rfl) (step_of fr_221 run_221 rfl rfl rfl) (step_of fr_226 run_226 rfl rfl rfl) (step_of fr_227 run_227 rfl rfl rfl) (step_of fr_228 run_228 rfl rfl rfl) (step_of fr_229 run_229 rfl rfl rfl), flow_61⟩
theorem fl_62 : FlowOk ⟨480, 991, 429, 479, 909, 1406⟩ := ⟨_, all6 (step_of fr_201 run_201_1 rfl rfl rfl) (step_of fr_221 run_221 rfl rfl rfl) (step_of fr_222 run_222 rfl rfl rfl) (step_of fr_223 run_223 rfl rfl rfl) (step_of fr_224 run_224 rfl rfl rfl) (step_of fr_225 run_225 rfl rfl rfl), flow_62⟩
theorem fl_63 : FlowOk ⟨480, 991, 429, 479, 1407, 1470⟩ := ⟨_, all6 (step_of fr_201 run_201_1 rfl rfl rfl) (step_of fr_221 run_221 rfl rfl rfl) (step_of fr_226 run_226 rfl rfl rfl) (step_of fr_227 run_227 rfl rfl rfl) (step_of fr_228 run_228 rfl rfl rfl) (step_of fr_230 run_230 rfl rfl rfl), flow_63⟩
theorem fl_64 : FlowOk ⟨480, 991, 480, 991, 960, 1982⟩ := ⟨_, all6 (step_of fr_201 run_201_1 rfl rfl rfl) (step_of fr_231 run_231 rfl rfl rfl) (step_of fr_232 run_232 rfl rfl rfl) (step_of fr_233 run_233 rfl rfl rfl) (step_of fr_234 run_234 rfl rfl rfl) (step_of fr_235 run_235 rfl rfl rfl), flow_64⟩
theorem fl_65 : FlowOk ⟨480, 991, 992, 1000, 1472, 1991⟩ := ⟨_, all6 (step_of fr_201 run_201_1 rfl rfl rfl) (step_of fr_236 run_236 rfl rfl rfl) (step_of fr_237 run_237 rfl rfl rfl) (step_of fr_238 run_238 rfl rfl rfl) (step_of fr_239 run_239 rfl rfl rfl) (step_of fr_240 run_240 rfl rfl rfl), flow_65⟩
theorem fl_66 : FlowOk ⟨992, 1000, 0, 31, 992, 1031⟩ := ⟨_, all6 (step_of fr_241 run_241 rfl rfl rfl) (step_of fr_242 run_242 rfl rfl rfl) (step_of fr_243 run_243 rfl rfl rfl) (step_of fr_244 run_244 rfl rfl rfl) (step_of fr_245 run_245 rfl rfl rfl) (step_of fr_246 run_246 rfl rfl rfl), flow_66⟩
theorem fl_67 : FlowOk ⟨992, 1000, 32, 87, 1024, 1087⟩ := ⟨_, all6 (step_of fr_241 run_241 rfl rfl rfl) (step_of fr_247 run_247 rfl rfl rfl) (step_of fr_248 run_248 rfl rfl rfl) (step_of fr_249 run_249 rfl rfl rfl) (step_of fr_250 run_250 rfl rfl rfl) (step_of fr_251 run_251 rfl rfl rfl), flow_67⟩
theorem fl_68 : FlowOk ⟨992, 1000, 88, 95, 1080, 1095⟩ := ⟨_, all6 (step_of fr_241 run_241 rfl rfl rfl) (step_of fr_247 run_247 rfl rfl rfl) (step_of fr_252 run_252 rfl rfl rfl) (step_of fr_253 run_253 rfl rfl rfl) (step_of fr_254 run_254 rfl rfl rfl) (step_of fr_255 run_255 rfl rfl rfl), flow_68⟩
theorem fl_69 : FlowOk ⟨992, 1000, 96, 223, 1088, 1223⟩ := ⟨_, all6 (step_of fr_241 run_241 rfl rfl rfl) (step_of fr_256 run_256 rfl rfl rfl) (step_of fr_257 run_257 rfl rfl rfl) (step_of fr_258 run_258 rfl rfl rfl) (step_of fr_259 run_259 rfl rfl rfl) (step_of fr_260 run_260 rfl rfl rfl), flow_69⟩
theorem fl_70 : FlowOk ⟨992, 1000, 224, 428, 1216, 1406⟩ := ⟨_, all6 (step_of fr_241 run_241_1 rfl rfl rfl) (step_of fr_261 run_261 rfl rfl rfl) (step_of fr_262 run_262 rfl rfl rfl) (step_of fr_263 run_263 rfl rfl rfl) (step_of fr_264 run_264 rfl rfl rfl) (step_of fr_265 run_265 rfl rfl rfl), flow_70⟩
theorem fl_71 : FlowOk ⟨992, 1000, 224, 428, 1407, 1428⟩ := ⟨_, all6 (step_of fr_241 run_241_1 rfl rfl rfl) (step_of fr_261 run_261 rfl rfl rfl) (step_of fr_266 run_266 rfl rfl rfl) (step_of fr_267 run_267 rfl rfl rfl) (step_of fr_268 run_268 rfl rfl rfl) (step_of fr_269 run_269 rfl rfl rfl), flow_71⟩
theorem fl_72 : FlowOk ⟨992, 1000, 429, 479, 1421, 1479⟩ := ⟨_, all6 (step_of fr_241 run_241_1 rfl rfl rfl) (step_of fr_261 run_261 rfl rfl rfl) (step_of fr_266 run_266 rfl rfl rfl) (step_of fr_267 run_267 rfl rfl rfl) (step_of fr_270 run_270 rfl rfl rfl) (step_of fr_271 run_271 rfl rfl rfl), flow_72⟩
theorem fl_73 : FlowOk ⟨992, 1000, 480, 991, 1472, 1991⟩ := ⟨_, all6 (step_of fr_241 run_241_1 rfl rfl rfl) (step_of fr_272 run_272 rfl rfl rfl) (step_of fr_273 run_273 rfl rfl rfl) (step_of fr_274 run_274 rfl rfl rfl) (step_of fr_275 run_275 rfl rfl rfl) (step_of fr_276 run_276 rfl rfl rfl), flow_73⟩
theorem fl_74 : FlowOk ⟨992, 1000, 992, 1000, 1984, 2000⟩ := ⟨_, all6 (step_of fr_241 run_241_1 rfl rfl rfl) (step_of fr_277 run_277 rfl rfl rfl) (step_of fr_278 run_278 rfl rfl rfl) (step_of fr_279 run_279 rfl rfl rfl) (step_of fr_280 run_280 rfl rfl rfl) (step_of fr_281 run_281 rfl rfl rfl), flow_74⟩
theorem picked (n0 n1 : Nat) (h0 : n0 ≤ 1000) (h1 : n1 ≤ 1000) : Picked n0 n1 := by
 by_cases a31 : n0 ≤ 31
 · by_cases b31 : n1 ≤ 31
   · exact pk fl_0 (by omega)
   by_cases b87 : n1 ≤ 87
   · exact pk fl_1 (by omega)
   by_cases b95 : n1 ≤ 95
   · exact pk fl_2 (by omega)
   by_cases b223 : n1 ≤ 223
   · exact pk fl_3 (by omega)
   by_cases b428 : n1 ≤ 428
   · exact pk fl_4 (by omega)
   by_cases b479 : n1 ≤ 479
   · exact pk fl_5 (by omega)
   by_cases b991 : n1 ≤ 991
   · exact pk fl_6 (by omega)
   exact pk fl_7 (by omega)
 by_cases a87 : n0 ≤ 87
 · by_cases b31 : n1 ≤ 31
   · exact pk fl_8 (by omega)
   by_cases b87 : n1 ≤ 87
   · exact pk fl_9 (by omega)
   by_cases b95 : n1 ≤ 95
   · exact pk fl_10 (by omega)
   by_cases b223 : n1 ≤ 223
   · exact pk fl_11 (by omega)
   by_cases b428 : n1 ≤ 428
   · exact pk fl_12 (by omega)
   by_cases b479 : n1 ≤ 479
   · exact pk fl_13 (by omega)
   by_cases b991 : n1 ≤ 991
   · exact pk fl_14 (by omega)
   exact pk fl_15 (by omega)
 by_cases a95 : n0 ≤ 95
 · by_cases b31 : n1 ≤ 31
   · exact pk fl_16 (by omega)
   by_cases b87 : n1 ≤ 87
   · exact pk fl_17 (by omega)
   by_cases b95 : n1 ≤ 95
   · exact pk fl_18 (by omega)
   by_cases b223 : n1 ≤ 223
   · exact pk fl_19 (by omega)
   by_cases b428 : n1 ≤ 428
   · by_cases s0 : n0 + n1 ≤ 395
     · exact pk fl_20 (by omega)
     exact pk fl_21 (by omega)
   by_cases b479 : n1 ≤ 479
   · exact pk fl_22 (by omega)
   by_cases b991 : n1 ≤ 991
   · exact pk fl_23 (by omega)
   exact pk fl_24 (by omega)
 by_cases a223 : n0 ≤ 223
 · by_cases b31 : n1 ≤ 31
   · exact pk fl_25 (by omega)
   by_cases b87 : n1 ≤ 87
   · exact pk fl_26 (by omega)
   by_cases b95 : n1 ≤ 95
   · exact pk fl_27 (by omega)
   by_cases b223 : n1 ≤ 223
   · by_cases s0 : n0 + n1 ≤ 395
     · exact pk fl_28 (by omega)
     exact pk fl_29 (by omega)
   by_cases b428 : n1 ≤ 428
   · by_cases s0 : n0 + n1 ≤ 395
     · exact pk fl_30 (by omega)
     exact pk fl_31 (by omega)
   by_cases b479 : n1 ≤ 479
   · exact pk fl_32 (by omega)
   by_cases b991 : n1 ≤ 991
   · exact pk fl_33 (by omega)
   exact pk fl_34 (by omega)
 by_cases a428 : n0 ≤ 428
 · by_cases b31 : n1 ≤ 31
   · exact pk fl_35 (by omega)
   by_cases b87 : n1 ≤ 87
   · exact pk fl_36 (by omega)
   by_cases b95 : n1 ≤ 95
   · by_cases s0 : n0 + n1 ≤ 395
     · exact pk fl_37 (by omega)
     exact pk fl_38 (by omega)
   by_cases b223 : n1 ≤ 223
   · by_cases s0 : n0 + n1 ≤ 395
     · exact pk fl_39 (by omega)
     exact pk fl_40 (by omega)
   by_cases b428 : n1 ≤ 428
   · exact pk fl_41 (by omega)
   by_cases b479 : n1 ≤ 479
   · exact pk fl_42 (by omega)
   by_cases b991 : n1 ≤ 991
   · by_cases s0 : n0 + n1 ≤ 1406
     · exact pk fl_43 (by omega)
     exact pk fl_44 (by omega)
   by_cases s0 : n0 + n1 ≤ 1406
   · exact pk fl_45 (by omega)
   exact pk fl_46 (by omega)
 by_cases a479 : n0 ≤ 479
 · by_cases b31 : n1 ≤ 31
   · exact pk fl_47 (by omega)
   by_cases b87 : n1 ≤ 87
   · exact pk fl_48 (by omega)
   by_cases b95 : n1 ≤ 95
   · exact pk fl_49 (by omega)
   by_cases b223 : n1 ≤ 223
   · exact pk fl_50 (by omega)
   by_cases b428 : n1 ≤ 428
   · exact pk fl_51 (by omega)
   by_cases b479 : n1 ≤ 479
   · exact pk fl_52 (by omega)
   by_cases b991 : n1 ≤ 991
   · by_cases s0 : n0 + n1 ≤ 1406
     · exact pk fl_53 (by omega)
     exact pk fl_54 (by omega)
   exact pk fl_55 (by omega)
 by_cases a991 : n0 ≤ 991
 · by_cases b31 : n1 ≤ 31
   · exact pk fl_56 (by omega)
   by_cases b87 : n1 ≤ 87
   · exact pk fl_57 (by omega)
   by_cases b95 : n1 ≤ 95
   · exact pk fl_58 (by omega)
   by_cases b223 : n1 ≤ 223
   · exact pk fl_59 (by omega)
   by_cases b428 : n1 ≤ 428
   · by_cases s0 : n0 + n1 ≤ 1406
     · exact pk fl_60 (by omega)
     exact pk fl_61 (by omega)
   by_cases b479 : n1 ≤ 479
   · by_cases s0 : n0 + n1 ≤ 1406
     · exact pk fl_62 (by omega)
     exact pk fl_63 (by omega)
   by_cases b991 : n1 ≤ 991
   · exact pk fl_64 (by omega)
   exact pk fl_65 (by omega)
 by_cases b31 : n1 ≤ 31
 · exact pk fl_66 (by omega)
 by_cases b87 : n1 ≤ 87
 · exact pk fl_67 (by omega)
 by_cases b95 : n1 ≤ 95
 · exact pk fl_68 (by omega)
 by_cases b223 : n1 ≤ 223
 · exact pk fl_69 (by omega)
 by_cases b428 : n1 ≤ 428
 · by_cases s0 : n0 + n1 ≤ 1406
   · exact pk fl_70 (by omega)
   exact pk fl_71 (by omega)
 by_cases b479 : n1 ≤ 479
 · exact pk fl_72 (by omega)
 by_cases b991 : n1 ≤ 991
 · exact pk fl_73 (by omega)
 exact pk fl_74 (by omega)
theorem spills_tells {W : World} (hT : TabB (Base.all W)) {a b : List Nat} (ha : ∀ c ∈ a, c < 256) (hb : ∀ c ∈ b, c < 256) : Tells 3 #[.string (bytes a), .string (bytes b)] W := tells_all picked hT ha hb
end Go.Ev
