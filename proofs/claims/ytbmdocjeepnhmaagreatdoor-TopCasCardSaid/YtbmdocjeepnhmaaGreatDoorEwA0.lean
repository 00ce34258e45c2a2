/- The first step of all behind Run that did nothing. -/
import Derived.Test.YtbmdocjeepnhmaaGreatDoorEwTk
set_option linter.unusedVariables false
set_option linter.unusedSimpArgs false
set_option linter.unusedSectionVars false
namespace Go.Ev
open Go Go.RowKit Go.Proofs
set_option maxRecDepth 1000000
noncomputable def Xd0 : List AV := [.v (.one (.p 799 0)), .v (.one (.p 367 0)), .v (.one (.i .i64 1000))]
noncomputable def Hd0 : Hp := putL [(814, some (.cells 3 [.i .i64 0, .i .i64 1, .i .i64 2, .i .i64 3])), (815, some (.cells 28 [.p 457 0])), (822, some (.row 3 1 [.i .i64 1, .i .i64 2, .i .i64 3])), (823, some (.clo 53 [.one (.p 815 0)])), (824, some (.cells 69 [f_, .s [], .s [], .nils, .s [], .i .u32 0, .i .i64 0, .i .u64 0, .i .u64 0, f_, f_, f_, f_, .s [], .nils, f_])), (825, some (.cells 69 [f_, .s [], .s [], .nils, .s [], .i .u32 0, .i .i64 0, .i .u64 0, .i .u64 0, f_, f_, f_, f_, .s [], .nils, f_])), (826, some (.cells 66 [.s [], .s [], .nils, .s [], .i .u32 0, .i .i64 0, .i .u64 0, .i .u64 0, f_, f_, f_, f_])), (827, some (.cells 5 [.i .u8 13])), (828, some (.cells 66 [.s [], .s [], .nils, .s [], .i .u32 0, .i .i64 0, .i .u64 0, .i .u64 0, f_, f_, f_, f_])), (829, some (.cells 176 [.nils, f_, f_, .i .i64 0])), (830, some (.cells 122 [.s [], .s [], .s [], .i .u32 0, .i .i64 0, .i .u64 0, f_])), (831, some (.cells 125 [.s [], .i .u64 0, f_, f_])), (832, some (.cells 128 [.s [], .i .i64 0, f_])), (833, some (.cells 131 [.s [], f_])), (834, some (.cells 134 [f_])), (835, some (.cells 179 [.s []])), (836, some (.cells 181 [.s []])), (837, some (.cells 66 [.s [], .s [], .nils, .s [], .i .u32 0, .i .i64 0, .i .u64 0, .i .u64 0, f_, f_, f_, f_])), (838, some (.cells 28 [.p 457 0])), (845, some (.row 3 1 [.i .i64 1, .i .i64 2, .i .i64 3])), (846, some (.clo 53 [.one (.p 838 0)]))] (behind zS11).h 848
noncomputable def Rd0 : AV × Hp := (.tup [.agg [.b true, .s [115, 116, 111, 114, 101], .s [99, 97, 115], .sl 875 0 1 (.ex 1), .y 50, .i .u32 0, .i .i64 0, .i .u64 1, .i .u64 0, f_, f_, f_, f_, .s [], .sl 944 0 1 (.ex 1), .b true], .one (.i .i64 0)], putL [(345, some (.cells 200 [p_, p_, p_, p_, p_, p_, p_, p_, p_, p_, .p 940 0, p_, p_, p_, p_, p_])), (347, some (.map [(.i .i64 0, .agg [.s [107], .y 50, .i .u32 0, .i .i64 0, .i .u64 2, f_], 1)] 2)), (349, some (.map [] 1)), (350, some (.map [(.i .i64 0, .one (.i .i64 0), 1)] 2)), (351, some (.cells 217 [.sl 942 0 1 (.un 0), .nils, .nils, .m 349, .m 350])), (374, some (.cells 168 [.p 335 0, .i .i64 0, .i .u64 2, .i .u64 1, .i .u64 64, .i .u64 0, .i .u64 0, f_, .i .i64 0, .i .u64 2, .p 382 0, .p 384 0, .p 402 0])), (576, none), (798, some (.cells 196 [.y 112, f_, .nili, .y 52])), (799, some (.cells 142 [.i .i64 65536, .p 798 0, .sl 954 0 8 (.un 0), .s [], .s [], .nils, .s [], .i .u32 0, .i .i64 0, .i .u64 0, .i .u64 0, f_, f_, f_, f_, .i .i64 0, f_, f_])), (875, some (.cells 9 [.s [107]])), (940, some (.cells 204 [.s [107], .i .i64 0, p_])), (942, some (.row 3 1 [.i .i64 0])), (944, some (.cells 117 [f_, .s [], .s [], .s [83, 84, 79, 82, 69, 68], .i .u32 0, .i .u64 0, f_])), (954, some (.row 5 1 [.i .u8 83, .i .u8 84, .i .u8 79, .i .u8 82, .i .u8 69, .i .u8 68, .i .u8 13, .i .u8 10]))] Hd0 955)
theorem fh_d0 : freeB Hd0 = true := by kernel_rfl
theorem fr_d0 : freeB Rd0.2 = true := by kernel_rfl
theorem run_d0 : chkM Rd0 (callG Tryz.prog (KT (tabC 0 ++ tabK 0 0) (t2C 0) (xlC 0)) (evG Tryz.prog (KT (tabC 0 ++ tabK 0 0) (t2C 0) (xlC 0)) 3000) 57 Xd0 Hd0) = true := by kernel_rfl
noncomputable def exd0 : CallT := memoF 57 Xd0 Hd0 Rd0 exF
end Go.Ev
namespace Go.Ev
open Go Go.RowKit Go.Proofs
set_option maxRecDepth 1000000
theorem all_S11x0 : isTrue (callG Tryz.prog (KFe [] exd0 zS11) (evG Tryz.prog (KFe [] exd0 zS11) 3000) 6 args6 h06) = true := by kernel_rfl
end Go.Ev
