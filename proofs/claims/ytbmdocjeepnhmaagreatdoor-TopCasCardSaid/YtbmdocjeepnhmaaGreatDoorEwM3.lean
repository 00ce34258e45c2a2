/- The call of a step: S0x2 to T0x2. -/
import Derived.Test.YtbmdocjeepnhmaaGreatDoorEwZ
set_option linter.unusedVariables false
set_option linter.unusedSimpArgs false
set_option linter.unusedSectionVars false
namespace Go.Ev
open Go Go.RowKit Go.Proofs
set_option maxRecDepth 1000000
noncomputable def XT0x2 : List AV := [.v (.one (.p 808 0)), .v (.one (.p 367 0)), .v (.one (.i .i64 1000))]
noncomputable def HT0x2 : Hp := putL [(933, some (.cells 28 [.p 457 0])), (940, some (.row 3 1 [.i .i64 1, .i .i64 2, .i .i64 3])), (941, some (.clo 53 [.one (.p 933 0)]))] zS0x2.h 943
noncomputable def RT0x2 : AV × Hp := (.tup [.agg [.b true, .s [115, 116, 111, 114, 101], .s [99, 97, 115], .sl 970 0 1 (.ex 1), .y 51, .i .u32 0, .i .i64 0, .i .u64 1, .i .u64 0, f_, f_, f_, f_, .s [], .sl 1020 0 1 (.ex 1), .b true], .one (.i .i64 0)], putL [(457, some (.cells 90 [.i .i64 4, .i .i64 4, .i .i64 2, .i .i64 16, .i .i64 4, .i .i64 65536, .i .i64 8, .p 367 0, .i .i64 1000, .m 456, .i .i64 3, f_, f_, .sl 932 0 3 (.un 0)])), (932, some (.row 71 18 [.c 0, .c 0, .c 0, .c 0, .c 0, .c 0, .c 0, .c 0, .c 0, .c 0, .c 0, .c 0, .c 0, .c 0, .c 0, .c 0, .c 0, .c 0, .c 0, .c 0, .c 0, .c 0, .c 0, .c 0, .c 0, .c 0, .c 0, .c 0, .c 0, .c 0, .c 0, .c 0, .c 0, .c 0, .c 0, .c 0, .c 0, .c 0, .c 0, .c 0, .c 0, .c 0, .c 0, .c 0, .c 0, .c 0, .c 0, .c 0, .c 0, .c 0, .c 0, .c 0, .c 0, .c 0])), (933, some (.cells 28 [.p 457 0])), (940, some (.row 3 1 [.i .i64 1, .i .i64 2, .i .i64 3])), (941, some (.clo 53 [.one (.p 933 0)])), (970, some (.cells 9 [.s [107]])), (1020, some (.cells 117 [f_, .s [], .s [], .s [69, 88, 73, 83, 84, 83], .i .u32 0, .i .u64 0, f_])), (1032, none)] zT0x2.h 1031)
theorem fh_T0x2 : freeB HT0x2 = true := by kernel_rfl
theorem fr_T0x2 : freeB RT0x2.2 = true := by kernel_rfl
theorem run_T0x2 : chkM RT0x2 (callG Tryz.prog (KT (tabC 1) (t2C 1) (xlC 1)) (evG Tryz.prog (KT (tabC 1) (t2C 1) (xlC 1)) 3000) 57 XT0x2 HT0x2) = true := by kernel_rfl
end Go.Ev
namespace Go.Ev
open Go Go.RowKit Go.Proofs
set_option maxRecDepth 1000000
theorem pass_T0x2 : chkR .normal [] [(23, .y 26), (27, .y 28), (21, .y 21), (22, .y 22), (50, .y 50), (52, .y 52), (53, .y 53), (112, .y 112), (113, .y 113)] [(20, .y 20), (70, .y 70), (71, .y 71), (72, .y 72), (73, .y 73)] zT0x2 (passOf (KP (.bin .add (.y 27) (.i .i64 1) (.y 28) :: tabI2 2) (memoF 57 XT0x2 HT0x2 RT0x2 (exI exB))) 3000 17 (false :: false :: way17) zS0x2) = true := by kernel_rfl
end Go.Ev
namespace Go.Ev
open Go Go.RowKit Go.Proofs
set_option maxRecDepth 1000000
noncomputable def XT0x3 : List AV := [.v (.one (.p 808 0)), .v (.one (.p 367 0)), .v (.one (.i .i64 1000))]
noncomputable def HT0x3 : Hp := putL [(933, some (.cells 28 [.p 457 0])), (940, some (.row 3 1 [.i .i64 1, .i .i64 2, .i .i64 3])), (941, some (.clo 53 [.one (.p 933 0)]))] zS0x3.h 943
noncomputable def RT0x3 : AV × Hp := (.tup [.agg [.b true, .s [115, 116, 111, 114, 101], .s [99, 97, 115], .sl 970 0 1 (.ex 1), .y 51, .i .u32 0, .i .i64 0, .i .u64 1, .i .u64 0, f_, f_, f_, f_, .s [], .sl 1020 0 1 (.ex 1), .b true], .one (.i .i64 0)], putL [(457, some (.cells 90 [.i .i64 4, .i .i64 4, .i .i64 2, .i .i64 16, .i .i64 4, .i .i64 65536, .i .i64 8, .p 367 0, .i .i64 1000, .m 456, .i .i64 3, f_, f_, .sl 932 0 3 (.un 0)])), (932, some (.row 71 18 [.c 0, .c 0, .c 0, .c 0, .c 0, .c 0, .c 0, .c 0, .c 0, .c 0, .c 0, .c 0, .c 0, .c 0, .c 0, .c 0, .c 0, .c 0, .c 0, .c 0, .c 0, .c 0, .c 0, .c 0, .c 0, .c 0, .c 0, .c 0, .c 0, .c 0, .c 0, .c 0, .c 0, .c 0, .c 0, .c 0, .c 0, .c 0, .c 0, .c 0, .c 0, .c 0, .c 0, .c 0, .c 0, .c 0, .c 0, .c 0, .c 0, .c 0, .c 0, .c 0, .c 0, .c 0])), (933, some (.cells 28 [.p 457 0])), (940, some (.row 3 1 [.i .i64 1, .i .i64 2, .i .i64 3])), (941, some (.clo 53 [.one (.p 933 0)])), (970, some (.cells 9 [.s [107]])), (1020, some (.cells 117 [f_, .s [], .s [], .s [69, 88, 73, 83, 84, 83], .i .u32 0, .i .u64 0, f_])), (1032, none)] zT0x3.h 1031)
theorem fh_T0x3 : freeB HT0x3 = true := by kernel_rfl
theorem fr_T0x3 : freeB RT0x3.2 = true := by kernel_rfl
theorem run_T0x3 : chkM RT0x3 (callG Tryz.prog (KT (tabC 1) (t2C 1) (xlC 1)) (evG Tryz.prog (KT (tabC 1) (t2C 1) (xlC 1)) 3000) 57 XT0x3 HT0x3) = true := by kernel_rfl
end Go.Ev
namespace Go.Ev
open Go Go.RowKit Go.Proofs
set_option maxRecDepth 1000000
theorem pass_T0x3 : chkR .normal [] [(23, .y 26), (27, .y 28), (21, .y 21), (22, .y 22), (50, .y 50), (52, .y 52), (53, .y 53), (112, .y 112), (113, .y 113)] [(20, .y 20), (70, .y 70), (71, .y 71), (72, .y 72), (73, .y 73)] zT0x3 (passOf (KP (.bin .add (.y 27) (.i .i64 1) (.y 28) :: tabI2 2) (memoF 57 XT0x3 HT0x3 RT0x3 (exI exB))) 3000 17 (false :: false :: way17) zS0x3) = true := by kernel_rfl
end Go.Ev
namespace Go.Ev
open Go Go.RowKit Go.Proofs
set_option maxRecDepth 1000000
noncomputable def XT0x4 : List AV := [.v (.one (.p 808 0)), .v (.one (.p 367 0)), .v (.one (.i .i64 1000))]
noncomputable def HT0x4 : Hp := putL [(933, some (.cells 28 [.p 457 0])), (940, some (.row 3 1 [.i .i64 1, .i .i64 2, .i .i64 3])), (941, some (.clo 53 [.one (.p 933 0)]))] zS0x4.h 943
noncomputable def RT0x4 : AV × Hp := (.tup [.agg [.b true, .s [115, 116, 111, 114, 101], .s [99, 97, 115], .sl 970 0 1 (.ex 1), .y 51, .i .u32 0, .i .i64 0, .i .u64 1, .i .u64 0, f_, f_, f_, f_, .s [], .sl 1020 0 1 (.ex 1), .b true], .one (.i .i64 0)], putL [(457, some (.cells 90 [.i .i64 4, .i .i64 4, .i .i64 2, .i .i64 16, .i .i64 4, .i .i64 65536, .i .i64 8, .p 367 0, .i .i64 1000, .m 456, .i .i64 3, f_, f_, .sl 932 0 3 (.un 0)])), (932, some (.row 71 18 [.c 0, .c 0, .c 0, .c 0, .c 0, .c 0, .c 0, .c 0, .c 0, .c 0, .c 0, .c 0, .c 0, .c 0, .c 0, .c 0, .c 0, .c 0, .c 0, .c 0, .c 0, .c 0, .c 0, .c 0, .c 0, .c 0, .c 0, .c 0, .c 0, .c 0, .c 0, .c 0, .c 0, .c 0, .c 0, .c 0, .c 0, .c 0, .c 0, .c 0, .c 0, .c 0, .c 0, .c 0, .c 0, .c 0, .c 0, .c 0, .c 0, .c 0, .c 0, .c 0, .c 0, .c 0])), (933, some (.cells 28 [.p 457 0])), (940, some (.row 3 1 [.i .i64 1, .i .i64 2, .i .i64 3])), (941, some (.clo 53 [.one (.p 933 0)])), (970, some (.cells 9 [.s [107]])), (1020, some (.cells 117 [f_, .s [], .s [], .s [69, 88, 73, 83, 84, 83], .i .u32 0, .i .u64 0, f_])), (1032, none)] zT0x4.h 1031)
theorem fh_T0x4 : freeB HT0x4 = true := by kernel_rfl
theorem fr_T0x4 : freeB RT0x4.2 = true := by kernel_rfl
theorem run_T0x4 : chkM RT0x4 (callG Tryz.prog (KT (tabC 1) (t2C 1) (xlC 1)) (evG Tryz.prog (KT (tabC 1) (t2C 1) (xlC 1)) 3000) 57 XT0x4 HT0x4) = true := by kernel_rfl
end Go.Ev
namespace Go.Ev
open Go Go.RowKit Go.Proofs
set_option maxRecDepth 1000000
theorem pass_T0x4 : chkR .normal [] [(23, .y 26), (27, .y 28), (21, .y 21), (22, .y 22), (50, .y 50), (52, .y 52), (53, .y 53), (112, .y 112), (113, .y 113)] [(20, .y 20), (70, .y 70), (71, .y 71), (72, .y 72), (73, .y 73)] zT0x4 (passOf (KP (.bin .add (.y 27) (.i .i64 1) (.y 28) :: tabI2 2) (memoF 57 XT0x4 HT0x4 RT0x4 (exI exB))) 3000 17 (false :: false :: way17) zS0x4) = true := by kernel_rfl
end Go.Ev
namespace Go.Ev
open Go Go.RowKit Go.Proofs
set_option maxRecDepth 1000000
noncomputable def XT1x0 : List AV := [.v (.one (.p 799 0)), .v (.one (.p 367 0)), .v (.one (.i .i64 1000))]
noncomputable def HT1x0 : Hp := putL [(933, some (.cells 28 [.p 457 0])), (940, some (.row 3 1 [.i .i64 1, .i .i64 2, .i .i64 3])), (941, some (.clo 53 [.one (.p 933 0)]))] zS1x0.h 943
noncomputable def RT1x0 : AV × Hp := (.tup [.agg [.b true, .s [115, 116, 111, 114, 101], .s [99, 97, 115], .sl 970 0 1 (.ex 1), .y 50, .i .u32 0, .i .i64 0, .i .u64 1, .i .u64 0, f_, f_, f_, f_, .s [], .sl 1020 0 1 (.ex 1), .b true], .one (.i .i64 0)], putL [(457, some (.cells 90 [.i .i64 4, .i .i64 4, .i .i64 2, .i .i64 16, .i .i64 4, .i .i64 65536, .i .i64 8, .p 367 0, .i .i64 1000, .m 456, .i .i64 3, f_, f_, .sl 932 0 3 (.un 0)])), (932, some (.row 71 18 [.c 0, .c 0, .c 0, .c 0, .c 0, .c 0, .c 0, .c 0, .c 0, .c 0, .c 0, .c 0, .c 0, .c 0, .c 0, .c 0, .c 0, .c 0, .c 0, .c 0, .c 0, .c 0, .c 0, .c 0, .c 0, .c 0, .c 0, .c 0, .c 0, .c 0, .c 0, .c 0, .c 0, .c 0, .c 0, .c 0, .c 0, .c 0, .c 0, .c 0, .c 0, .c 0, .c 0, .c 0, .c 0, .c 0, .c 0, .c 0, .c 0, .c 0, .c 0, .c 0, .c 0, .c 0])), (933, some (.cells 28 [.p 457 0])), (940, some (.row 3 1 [.i .i64 1, .i .i64 2, .i .i64 3])), (941, some (.clo 53 [.one (.p 933 0)])), (970, some (.cells 9 [.s [107]])), (1020, some (.cells 117 [f_, .s [], .s [], .s [69, 88, 73, 83, 84, 83], .i .u32 0, .i .u64 0, f_])), (1032, none)] zT1x0.h 1031)
theorem fh_T1x0 : freeB HT1x0 = true := by kernel_rfl
theorem fr_T1x0 : freeB RT1x0.2 = true := by kernel_rfl
theorem run_T1x0 : chkM RT1x0 (callG Tryz.prog (KT (tabC 0) (t2C 0) (xlC 0)) (evG Tryz.prog (KT (tabC 0) (t2C 0) (xlC 0)) 3000) 57 XT1x0 HT1x0) = true := by kernel_rfl
end Go.Ev
namespace Go.Ev
open Go Go.RowKit Go.Proofs
set_option maxRecDepth 1000000
theorem pass_T1x0 : chkR .normal [] [(23, .y 26), (27, .y 28), (21, .y 21), (22, .y 22), (51, .y 51), (52, .y 52), (53, .y 53), (112, .y 112), (113, .y 113)] [(20, .y 20), (70, .y 70), (71, .y 71), (72, .y 72), (73, .y 73)] zT1x0 (passOf (KP (.bin .add (.y 27) (.i .i64 1) (.y 28) :: tabI2 1) (memoF 57 XT1x0 HT1x0 RT1x0 (exI exB))) 3000 17 (false :: false :: way17) zS1x0) = true := by kernel_rfl
end Go.Ev
