/- The call of a step: S11 to S0x0. -/
import Derived.Test.YtbmdocjeepnhmaaGreatDoorEwZ
set_option linter.unusedVariables false
set_option linter.unusedSimpArgs false
set_option linter.unusedSectionVars false
namespace Go.Ev
open Go Go.RowKit Go.Proofs
set_option maxRecDepth 1000000
noncomputable def XS0x0 : List AV := [.v (.one (.p 799 0)), .v (.one (.p 367 0)), .v (.one (.i .i64 1000))]
noncomputable def HS0x0 : Hp := putL [(814, some (.cells 28 [.p 457 0])), (821, some (.row 3 1 [.i .i64 1, .i .i64 2, .i .i64 3])), (822, some (.clo 53 [.one (.p 814 0)]))] zS11.h 824
noncomputable def RS0x0 : AV × Hp := (.tup [.agg [.b true, .s [115, 116, 111, 114, 101], .s [99, 97, 115], .sl 851 0 1 (.ex 1), .y 50, .i .u32 0, .i .i64 0, .i .u64 1, .i .u64 0, f_, f_, f_, f_, .s [], .sl 920 0 1 (.ex 1), .b true], .one (.i .i64 0)], putL [(457, some (.cells 90 [.i .i64 4, .i .i64 4, .i .i64 2, .i .i64 16, .i .i64 4, .i .i64 65536, .i .i64 8, .p 367 0, .i .i64 1000, .m 456, .i .i64 3, f_, f_, .sl 664 0 2 (.un 0)])), (574, some (.cells 204 [.s [107], .i .i64 0, p_])), (664, some (.row 71 18 [.c 0, .c 0, .c 0, .c 0, .c 0, .c 0, .c 0, .c 0, .c 0, .c 0, .c 0, .c 0, .c 0, .c 0, .c 0, .c 0, .c 0, .c 0, .c 0, .c 0, .c 0, .c 0, .c 0, .c 0, .c 0, .c 0, .c 0, .c 0, .c 0, .c 0, .c 0, .c 0, .c 0, .c 0, .c 0, .c 0])), (814, some (.cells 28 [.p 457 0])), (821, some (.row 3 1 [.i .i64 1, .i .i64 2, .i .i64 3])), (822, some (.clo 53 [.one (.p 814 0)])), (851, some (.cells 9 [.s [107]])), (920, some (.cells 117 [f_, .s [], .s [], .s [83, 84, 79, 82, 69, 68], .i .u32 0, .i .u64 0, f_])), (932, none)] zS0x0.h 931)
theorem fh_S0x0 : freeB HS0x0 = true := by kernel_rfl
theorem fr_S0x0 : freeB RS0x0.2 = true := by kernel_rfl
theorem run_S0x0 : chkM RS0x0 (callG Tryz.prog (KT (tabC 0 ++ tabK 0 0) (t2C 0) (xlC 0)) (evG Tryz.prog (KT (tabC 0 ++ tabK 0 0) (t2C 0) (xlC 0)) 3000) 57 XS0x0 HS0x0) = true := by kernel_rfl
end Go.Ev
namespace Go.Ev
open Go Go.RowKit Go.Proofs
set_option maxRecDepth 1000000
theorem pass_S0x0 : chkR .normal [] [(23, .y 26), (27, .y 28), (21, .y 21), (22, .y 22), (50, .y 50), (52, .y 52), (73, .y 73), (112, .y 112)] [(20, .y 20), (70, .y 70), (71, .y 71), (72, .y 72), (73, .y 73)] zS0x0 (passOf (KP (.bin .add (.y 27) (.i .i64 1) (.y 28) :: tabI2 1) (memoF 57 XS0x0 HS0x0 RS0x0 (exI exB))) 3000 17 (false :: false :: way17) zS11) = true := by kernel_rfl
end Go.Ev
namespace Go.Ev
open Go Go.RowKit Go.Proofs
set_option maxRecDepth 1000000
noncomputable def XS0x1 : List AV := [.v (.one (.p 799 0)), .v (.one (.p 367 0)), .v (.one (.i .i64 1000))]
noncomputable def HS0x1 : Hp := putL [(814, some (.cells 28 [.p 457 0])), (821, some (.row 3 1 [.i .i64 1, .i .i64 2, .i .i64 3])), (822, some (.clo 53 [.one (.p 814 0)]))] zS11.h 824
noncomputable def RS0x1 : AV × Hp := (.tup [.agg [.b true, .s [115, 116, 111, 114, 101], .s [99, 97, 115], .sl 851 0 1 (.ex 1), .y 50, .i .u32 0, .i .i64 0, .i .u64 1, .i .u64 0, f_, f_, f_, f_, .s [], .sl 920 0 1 (.ex 1), .b true], .one (.i .i64 0)], putL [(457, some (.cells 90 [.i .i64 4, .i .i64 4, .i .i64 2, .i .i64 16, .i .i64 4, .i .i64 65536, .i .i64 8, .p 367 0, .i .i64 1000, .m 456, .i .i64 3, f_, f_, .sl 664 0 2 (.un 0)])), (574, some (.cells 204 [.s [107], .i .i64 0, p_])), (664, some (.row 71 18 [.c 0, .c 0, .c 0, .c 0, .c 0, .c 0, .c 0, .c 0, .c 0, .c 0, .c 0, .c 0, .c 0, .c 0, .c 0, .c 0, .c 0, .c 0, .c 0, .c 0, .c 0, .c 0, .c 0, .c 0, .c 0, .c 0, .c 0, .c 0, .c 0, .c 0, .c 0, .c 0, .c 0, .c 0, .c 0, .c 0])), (814, some (.cells 28 [.p 457 0])), (821, some (.row 3 1 [.i .i64 1, .i .i64 2, .i .i64 3])), (822, some (.clo 53 [.one (.p 814 0)])), (851, some (.cells 9 [.s [107]])), (920, some (.cells 117 [f_, .s [], .s [], .s [83, 84, 79, 82, 69, 68], .i .u32 0, .i .u64 0, f_])), (932, none)] zS0x1.h 931)
theorem fh_S0x1 : freeB HS0x1 = true := by kernel_rfl
theorem fr_S0x1 : freeB RS0x1.2 = true := by kernel_rfl
theorem run_S0x1 : chkM RS0x1 (callG Tryz.prog (KT (tabC 0 ++ tabK 0 1) (t2C 0) (xlC 0)) (evG Tryz.prog (KT (tabC 0 ++ tabK 0 1) (t2C 0) (xlC 0)) 3000) 57 XS0x1 HS0x1) = true := by kernel_rfl
end Go.Ev
namespace Go.Ev
open Go Go.RowKit Go.Proofs
set_option maxRecDepth 1000000
theorem pass_S0x1 : chkR .normal [] [(23, .y 26), (27, .y 28), (21, .y 21), (22, .y 22), (50, .y 50), (52, .y 52), (73, .y 73), (112, .y 112)] [(20, .y 20), (70, .y 70), (71, .y 71), (72, .y 72), (73, .y 73)] zS0x1 (passOf (KP (.bin .add (.y 27) (.i .i64 1) (.y 28) :: tabI2 1) (memoF 57 XS0x1 HS0x1 RS0x1 (exI exB))) 3000 17 (false :: false :: way17) zS11) = true := by kernel_rfl
end Go.Ev
namespace Go.Ev
open Go Go.RowKit Go.Proofs
set_option maxRecDepth 1000000
noncomputable def XS0x2 : List AV := [.v (.one (.p 799 0)), .v (.one (.p 367 0)), .v (.one (.i .i64 1000))]
noncomputable def HS0x2 : Hp := putL [(814, some (.cells 28 [.p 457 0])), (821, some (.row 3 1 [.i .i64 1, .i .i64 2, .i .i64 3])), (822, some (.clo 53 [.one (.p 814 0)]))] zS11.h 824
noncomputable def RS0x2 : AV × Hp := (.tup [.agg [.b true, .s [115, 116, 111, 114, 101], .s [99, 97, 115], .sl 851 0 1 (.ex 1), .y 50, .i .u32 0, .i .i64 0, .i .u64 1, .i .u64 0, f_, f_, f_, f_, .s [], .sl 920 0 1 (.ex 1), .b true], .one (.i .i64 0)], putL [(457, some (.cells 90 [.i .i64 4, .i .i64 4, .i .i64 2, .i .i64 16, .i .i64 4, .i .i64 65536, .i .i64 8, .p 367 0, .i .i64 1000, .m 456, .i .i64 3, f_, f_, .sl 664 0 2 (.un 0)])), (574, some (.cells 204 [.s [107], .i .i64 0, p_])), (664, some (.row 71 18 [.c 0, .c 0, .c 0, .c 0, .c 0, .c 0, .c 0, .c 0, .c 0, .c 0, .c 0, .c 0, .c 0, .c 0, .c 0, .c 0, .c 0, .c 0, .c 0, .c 0, .c 0, .c 0, .c 0, .c 0, .c 0, .c 0, .c 0, .c 0, .c 0, .c 0, .c 0, .c 0, .c 0, .c 0, .c 0, .c 0])), (814, some (.cells 28 [.p 457 0])), (821, some (.row 3 1 [.i .i64 1, .i .i64 2, .i .i64 3])), (822, some (.clo 53 [.one (.p 814 0)])), (851, some (.cells 9 [.s [107]])), (920, some (.cells 117 [f_, .s [], .s [], .s [83, 84, 79, 82, 69, 68], .i .u32 0, .i .u64 0, f_])), (932, none)] zS0x2.h 931)
theorem fh_S0x2 : freeB HS0x2 = true := by kernel_rfl
theorem fr_S0x2 : freeB RS0x2.2 = true := by kernel_rfl
theorem run_S0x2 : chkM RS0x2 (callG Tryz.prog (KT (tabC 0 ++ tabK 0 2) (t2C 0) (xlC 0)) (evG Tryz.prog (KT (tabC 0 ++ tabK 0 2) (t2C 0) (xlC 0)) 3000) 57 XS0x2 HS0x2) = true := by kernel_rfl
end Go.Ev
namespace Go.Ev
open Go Go.RowKit Go.Proofs
set_option maxRecDepth 1000000
theorem pass_S0x2 : chkR .normal [] [(23, .y 26), (27, .y 28), (21, .y 21), (22, .y 22), (50, .y 50), (52, .y 52), (73, .y 73), (112, .y 112)] [(20, .y 20), (70, .y 70), (71, .y 71), (72, .y 72), (73, .y 73)] zS0x2 (passOf (KP (.bin .add (.y 27) (.i .i64 1) (.y 28) :: tabI2 1) (memoF 57 XS0x2 HS0x2 RS0x2 (exI exB))) 3000 17 (false :: false :: way17) zS11) = true := by kernel_rfl
end Go.Ev
namespace Go.Ev
open Go Go.RowKit Go.Proofs
set_option maxRecDepth 1000000
noncomputable def XS0x3 : List AV := [.v (.one (.p 799 0)), .v (.one (.p 367 0)), .v (.one (.i .i64 1000))]
noncomputable def HS0x3 : Hp := putL [(814, some (.cells 28 [.p 457 0])), (821, some (.row 3 1 [.i .i64 1, .i .i64 2, .i .i64 3])), (822, some (.clo 53 [.one (.p 814 0)]))] zS11.h 824
noncomputable def RS0x3 : AV × Hp := (.tup [.agg [.b true, .s [115, 116, 111, 114, 101], .s [99, 97, 115], .sl 851 0 1 (.ex 1), .y 50, .i .u32 0, .i .i64 0, .i .u64 1, .i .u64 0, f_, f_, f_, f_, .s [], .sl 920 0 1 (.ex 1), .b true], .one (.i .i64 0)], putL [(457, some (.cells 90 [.i .i64 4, .i .i64 4, .i .i64 2, .i .i64 16, .i .i64 4, .i .i64 65536, .i .i64 8, .p 367 0, .i .i64 1000, .m 456, .i .i64 3, f_, f_, .sl 664 0 2 (.un 0)])), (574, some (.cells 204 [.s [107], .i .i64 0, p_])), (664, some (.row 71 18 [.c 0, .c 0, .c 0, .c 0, .c 0, .c 0, .c 0, .c 0, .c 0, .c 0, .c 0, .c 0, .c 0, .c 0, .c 0, .c 0, .c 0, .c 0, .c 0, .c 0, .c 0, .c 0, .c 0, .c 0, .c 0, .c 0, .c 0, .c 0, .c 0, .c 0, .c 0, .c 0, .c 0, .c 0, .c 0, .c 0])), (814, some (.cells 28 [.p 457 0])), (821, some (.row 3 1 [.i .i64 1, .i .i64 2, .i .i64 3])), (822, some (.clo 53 [.one (.p 814 0)])), (851, some (.cells 9 [.s [107]])), (920, some (.cells 117 [f_, .s [], .s [], .s [83, 84, 79, 82, 69, 68], .i .u32 0, .i .u64 0, f_])), (932, none)] zS0x3.h 931)
theorem fh_S0x3 : freeB HS0x3 = true := by kernel_rfl
theorem fr_S0x3 : freeB RS0x3.2 = true := by kernel_rfl
theorem run_S0x3 : chkM RS0x3 (callG Tryz.prog (KT (tabC 0 ++ tabK 0 3) (t2C 0) (xlC 0)) (evG Tryz.prog (KT (tabC 0 ++ tabK 0 3) (t2C 0) (xlC 0)) 3000) 57 XS0x3 HS0x3) = true := by kernel_rfl
end Go.Ev
namespace Go.Ev
open Go Go.RowKit Go.Proofs
set_option maxRecDepth 1000000
theorem pass_S0x3 : chkR .normal [] [(23, .y 26), (27, .y 28), (21, .y 21), (22, .y 22), (50, .y 50), (52, .y 52), (73, .y 73), (112, .y 112)] [(20, .y 20), (70, .y 70), (71, .y 71), (72, .y 72), (73, .y 73)] zS0x3 (passOf (KP (.bin .add (.y 27) (.i .i64 1) (.y 28) :: tabI2 1) (memoF 57 XS0x3 HS0x3 RS0x3 (exI exB))) 3000 17 (false :: false :: way17) zS11) = true := by kernel_rfl
end Go.Ev
