/- The call of a step: S11 to S1x3. -/
import Derived.Test.YtbmdocjeepnhmaaGreatDoorEwZ
set_option linter.unusedVariables false
set_option linter.unusedSimpArgs false
set_option linter.unusedSectionVars false
namespace Go.Ev
open Go Go.RowKit Go.Proofs
set_option maxRecDepth 1000000
noncomputable def XS1x3 : List AV := [.v (.one (.p 808 0)), .v (.one (.p 367 0)), .v (.one (.i .i64 1000))]
noncomputable def HS1x3 : Hp := putL [(814, some (.cells 28 [.p 457 0])), (821, some (.row 3 1 [.i .i64 1, .i .i64 2, .i .i64 3])), (822, some (.clo 53 [.one (.p 814 0)]))] zS11.h 824
noncomputable def RS1x3 : AV × Hp := (.tup [.agg [.b true, .s [115, 116, 111, 114, 101], .s [99, 97, 115], .sl 851 0 1 (.ex 1), .y 51, .i .u32 0, .i .i64 0, .i .u64 1, .i .u64 0, f_, f_, f_, f_, .s [], .sl 920 0 1 (.ex 1), .b true], .one (.i .i64 0)], putL [(457, some (.cells 90 [.i .i64 4, .i .i64 4, .i .i64 2, .i .i64 16, .i .i64 4, .i .i64 65536, .i .i64 8, .p 367 0, .i .i64 1000, .m 456, .i .i64 3, f_, f_, .sl 664 0 2 (.un 0)])), (574, some (.cells 204 [.s [107], .i .i64 0, p_])), (664, some (.row 71 18 [.c 0, .c 0, .c 0, .c 0, .c 0, .c 0, .c 0, .c 0, .c 0, .c 0, .c 0, .c 0, .c 0, .c 0, .c 0, .c 0, .c 0, .c 0, .c 0, .c 0, .c 0, .c 0, .c 0, .c 0, .c 0, .c 0, .c 0, .c 0, .c 0, .c 0, .c 0, .c 0, .c 0, .c 0, .c 0, .c 0])), (814, some (.cells 28 [.p 457 0])), (821, some (.row 3 1 [.i .i64 1, .i .i64 2, .i .i64 3])), (822, some (.clo 53 [.one (.p 814 0)])), (851, some (.cells 9 [.s [107]])), (920, some (.cells 117 [f_, .s [], .s [], .s [83, 84, 79, 82, 69, 68], .i .u32 0, .i .u64 0, f_])), (932, none)] zS1x3.h 931)
theorem fh_S1x3 : freeB HS1x3 = true := by kernel_rfl
theorem fr_S1x3 : freeB RS1x3.2 = true := by kernel_rfl
theorem run_S1x3 : chkM RS1x3 (callG Tryz.prog (KT (tabC 1 ++ tabK 1 3) (t2C 1) (xlC 1)) (evG Tryz.prog (KT (tabC 1 ++ tabK 1 3) (t2C 1) (xlC 1)) 3000) 57 XS1x3 HS1x3) = true := by kernel_rfl
end Go.Ev
namespace Go.Ev
open Go Go.RowKit Go.Proofs
set_option maxRecDepth 1000000
theorem pass_S1x3 : chkR .normal [] [(23, .y 26), (27, .y 28), (21, .y 21), (22, .y 22), (51, .y 51), (53, .y 53), (72, .y 72), (113, .y 113)] [(20, .y 20), (70, .y 70), (71, .y 71), (72, .y 72), (73, .y 73)] zS1x3 (passOf (KP (.bin .add (.y 27) (.i .i64 1) (.y 28) :: tabI2 2) (memoF 57 XS1x3 HS1x3 RS1x3 (exI exB))) 3000 17 (false :: false :: way17) zS11) = true := by kernel_rfl
end Go.Ev
namespace Go.Ev
open Go Go.RowKit Go.Proofs
set_option maxRecDepth 1000000
noncomputable def XS1x4 : List AV := [.v (.one (.p 808 0)), .v (.one (.p 367 0)), .v (.one (.i .i64 1000))]
noncomputable def HS1x4 : Hp := putL [(814, some (.cells 28 [.p 457 0])), (821, some (.row 3 1 [.i .i64 1, .i .i64 2, .i .i64 3])), (822, some (.clo 53 [.one (.p 814 0)]))] zS11.h 824
noncomputable def RS1x4 : AV × Hp := (.tup [.agg [.b true, .s [115, 116, 111, 114, 101], .s [99, 97, 115], .sl 851 0 1 (.ex 1), .y 51, .i .u32 0, .i .i64 0, .i .u64 1, .i .u64 0, f_, f_, f_, f_, .s [], .sl 920 0 1 (.ex 1), .b true], .one (.i .i64 0)], putL [(457, some (.cells 90 [.i .i64 4, .i .i64 4, .i .i64 2, .i .i64 16, .i .i64 4, .i .i64 65536, .i .i64 8, .p 367 0, .i .i64 1000, .m 456, .i .i64 3, f_, f_, .sl 664 0 2 (.un 0)])), (574, some (.cells 204 [.s [107], .i .i64 0, p_])), (664, some (.row 71 18 [.c 0, .c 0, .c 0, .c 0, .c 0, .c 0, .c 0, .c 0, .c 0, .c 0, .c 0, .c 0, .c 0, .c 0, .c 0, .c 0, .c 0, .c 0, .c 0, .c 0, .c 0, .c 0, .c 0, .c 0, .c 0, .c 0, .c 0, .c 0, .c 0, .c 0, .c 0, .c 0, .c 0, .c 0, .c 0, .c 0])), (814, some (.cells 28 [.p 457 0])), (821, some (.row 3 1 [.i .i64 1, .i .i64 2, .i .i64 3])), (822, some (.clo 53 [.one (.p 814 0)])), (851, some (.cells 9 [.s [107]])), (920, some (.cells 117 [f_, .s [], .s [], .s [83, 84, 79, 82, 69, 68], .i .u32 0, .i .u64 0, f_])), (932, none)] zS1x4.h 931)
theorem fh_S1x4 : freeB HS1x4 = true := by kernel_rfl
theorem fr_S1x4 : freeB RS1x4.2 = true := by kernel_rfl
theorem run_S1x4 : chkM RS1x4 (callG Tryz.prog (KT (tabC 1 ++ tabK 1 4) (t2C 1) (xlC 1)) (evG Tryz.prog (KT (tabC 1 ++ tabK 1 4) (t2C 1) (xlC 1)) 3000) 57 XS1x4 HS1x4) = true := by kernel_rfl
end Go.Ev
namespace Go.Ev
open Go Go.RowKit Go.Proofs
set_option maxRecDepth 1000000
theorem pass_S1x4 : chkR .normal [] [(23, .y 26), (27, .y 28), (21, .y 21), (22, .y 22), (51, .y 51), (53, .y 53), (72, .y 72), (113, .y 113)] [(20, .y 20), (70, .y 70), (71, .y 71), (72, .y 72), (73, .y 73)] zS1x4 (passOf (KP (.bin .add (.y 27) (.i .i64 1) (.y 28) :: tabI2 2) (memoF 57 XS1x4 HS1x4 RS1x4 (exI exB))) 3000 17 (false :: false :: way17) zS11) = true := by kernel_rfl
end Go.Ev
namespace Go.Ev
open Go Go.RowKit Go.Proofs
set_option maxRecDepth 1000000
noncomputable def XT0x0 : List AV := [.v (.one (.p 808 0)), .v (.one (.p 367 0)), .v (.one (.i .i64 1000))]
noncomputable def HT0x0 : Hp := putL [(933, some (.cells 28 [.p 457 0])), (940, some (.row 3 1 [.i .i64 1, .i .i64 2, .i .i64 3])), (941, some (.clo 53 [.one (.p 933 0)]))] zS0x0.h 943
noncomputable def RT0x0 : AV × Hp := (.tup [.agg [.b true, .s [115, 116, 111, 114, 101], .s [99, 97, 115], .sl 970 0 1 (.ex 1), .y 51, .i .u32 0, .i .i64 0, .i .u64 1, .i .u64 0, f_, f_, f_, f_, .s [], .sl 1020 0 1 (.ex 1), .b true], .one (.i .i64 0)], putL [(457, some (.cells 90 [.i .i64 4, .i .i64 4, .i .i64 2, .i .i64 16, .i .i64 4, .i .i64 65536, .i .i64 8, .p 367 0, .i .i64 1000, .m 456, .i .i64 3, f_, f_, .sl 932 0 3 (.un 0)])), (932, some (.row 71 18 [.c 0, .c 0, .c 0, .c 0, .c 0, .c 0, .c 0, .c 0, .c 0, .c 0, .c 0, .c 0, .c 0, .c 0, .c 0, .c 0, .c 0, .c 0, .c 0, .c 0, .c 0, .c 0, .c 0, .c 0, .c 0, .c 0, .c 0, .c 0, .c 0, .c 0, .c 0, .c 0, .c 0, .c 0, .c 0, .c 0, .c 0, .c 0, .c 0, .c 0, .c 0, .c 0, .c 0, .c 0, .c 0, .c 0, .c 0, .c 0, .c 0, .c 0, .c 0, .c 0, .c 0, .c 0])), (933, some (.cells 28 [.p 457 0])), (940, some (.row 3 1 [.i .i64 1, .i .i64 2, .i .i64 3])), (941, some (.clo 53 [.one (.p 933 0)])), (970, some (.cells 9 [.s [107]])), (1020, some (.cells 117 [f_, .s [], .s [], .s [69, 88, 73, 83, 84, 83], .i .u32 0, .i .u64 0, f_])), (1032, none)] zT0x0.h 1031)
theorem fh_T0x0 : freeB HT0x0 = true := by kernel_rfl
theorem fr_T0x0 : freeB RT0x0.2 = true := by kernel_rfl
theorem run_T0x0 : chkM RT0x0 (callG Tryz.prog (KT (tabC 1) (t2C 1) (xlC 1)) (evG Tryz.prog (KT (tabC 1) (t2C 1) (xlC 1)) 3000) 57 XT0x0 HT0x0) = true := by kernel_rfl
end Go.Ev
namespace Go.Ev
open Go Go.RowKit Go.Proofs
set_option maxRecDepth 1000000
theorem pass_T0x0 : chkR .normal [] [(23, .y 26), (27, .y 28), (21, .y 21), (22, .y 22), (50, .y 50), (52, .y 52), (53, .y 53), (112, .y 112), (113, .y 113)] [(20, .y 20), (70, .y 70), (71, .y 71), (72, .y 72), (73, .y 73)] zT0x0 (passOf (KP (.bin .add (.y 27) (.i .i64 1) (.y 28) :: tabI2 2) (memoF 57 XT0x0 HT0x0 RT0x0 (exI exB))) 3000 17 (false :: false :: way17) zS0x0) = true := by kernel_rfl
end Go.Ev
namespace Go.Ev
open Go Go.RowKit Go.Proofs
set_option maxRecDepth 1000000
noncomputable def XT0x1 : List AV := [.v (.one (.p 808 0)), .v (.one (.p 367 0)), .v (.one (.i .i64 1000))]
noncomputable def HT0x1 : Hp := putL [(933, some (.cells 28 [.p 457 0])), (940, some (.row 3 1 [.i .i64 1, .i .i64 2, .i .i64 3])), (941, some (.clo 53 [.one (.p 933 0)]))] zS0x1.h 943
noncomputable def RT0x1 : AV × Hp := (.tup [.agg [.b true, .s [115, 116, 111, 114, 101], .s [99, 97, 115], .sl 970 0 1 (.ex 1), .y 51, .i .u32 0, .i .i64 0, .i .u64 1, .i .u64 0, f_, f_, f_, f_, .s [], .sl 1020 0 1 (.ex 1), .b true], .one (.i .i64 0)], putL [(457, some (.cells 90 [.i .i64 4, .i .i64 4, .i .i64 2, .i .i64 16, .i .i64 4, .i .i64 65536, .i .i64 8, .p 367 0, .i .i64 1000, .m 456, .i .i64 3, f_, f_, .sl 932 0 3 (.un 0)])), (932, some (.row 71 18 [.c 0, .c 0, .c 0, .c 0, .c 0, .c 0, .c 0, .c 0, .c 0, .c 0, .c 0, .c 0, .c 0, .c 0, .c 0, .c 0, .c 0, .c 0, .c 0, .c 0, .c 0, .c 0, .c 0, .c 0, .c 0, .c 0, .c 0, .c 0, .c 0, .c 0, .c 0, .c 0, .c 0, .c 0, .c 0, .c 0, .c 0, .c 0, .c 0, .c 0, .c 0, .c 0, .c 0, .c 0, .c 0, .c 0, .c 0, .c 0, .c 0, .c 0, .c 0, .c 0, .c 0, .c 0])), (933, some (.cells 28 [.p 457 0])), (940, some (.row 3 1 [.i .i64 1, .i .i64 2, .i .i64 3])), (941, some (.clo 53 [.one (.p 933 0)])), (970, some (.cells 9 [.s [107]])), (1020, some (.cells 117 [f_, .s [], .s [], .s [69, 88, 73, 83, 84, 83], .i .u32 0, .i .u64 0, f_])), (1032, none)] zT0x1.h 1031)
theorem fh_T0x1 : freeB HT0x1 = true := by kernel_rfl
theorem fr_T0x1 : freeB RT0x1.2 = true := by kernel_rfl
theorem run_T0x1 : chkM RT0x1 (callG Tryz.prog (KT (tabC 1) (t2C 1) (xlC 1)) (evG Tryz.prog (KT (tabC 1) (t2C 1) (xlC 1)) 3000) 57 XT0x1 HT0x1) = true := by kernel_rfl
end Go.Ev
namespace Go.Ev
open Go Go.RowKit Go.Proofs
set_option maxRecDepth 1000000
theorem pass_T0x1 : chkR .normal [] [(23, .y 26), (27, .y 28), (21, .y 21), (22, .y 22), (50, .y 50), (52, .y 52), (53, .y 53), (112, .y 112), (113, .y 113)] [(20, .y 20), (70, .y 70), (71, .y 71), (72, .y 72), (73, .y 73)] zT0x1 (passOf (KP (.bin .add (.y 27) (.i .i64 1) (.y 28) :: tabI2 2) (memoF 57 XT0x1 HT0x1 RT0x1 (exI exB))) 3000 17 (false :: false :: way17) zS0x1) = true := by kernel_rfl
end Go.Ev
