/- Passes of Run that do nothing, in one state. -/
import Derived.Test.YtbmdocjeepnhmaaGreatDoorEwZ
set_option linter.unusedVariables false
set_option linter.unusedSimpArgs false
set_option linter.unusedSectionVars false
namespace Go.Ev
open Go Go.RowKit Go.Proofs
set_option maxRecDepth 1000000
theorem neg_S11 : chkR .normal [] [(23, .y 26), (27, .y 27), (21, .y 21), (22, .y 22), (72, .y 72), (73, .y 73)] [(20, .y 20), (70, .y 70), (71, .y 71), (72, .y 72), (73, .y 73)] zS11 (passOf (KP (tabI1 true) (exI exB)) 3000 17 (false :: false :: way17) zS11) = true := by kernel_rfl
theorem no0_S11 : chkR .normal [] [(23, .y 26), (27, .y 27), (21, .y 21), (22, .y 22), (72, .y 72), (73, .y 73)] [(20, .y 20), (70, .y 70), (71, .y 71), (72, .y 72), (73, .y 73)] zS11 (passOf (KP (tabI2 0) (exI exB)) 3000 17 (false :: false :: way17) zS11) = true := by kernel_rfl
theorem end_S11 : chkR (.exit 0) [] [(23, .y 23), (27, .y 27), (21, .y 21), (22, .y 22), (72, .y 72), (73, .y 73)] [(20, .y 20), (70, .y 70), (71, .y 71), (72, .y 72), (73, .y 73)] zS11 (passOf (KP0 (tabI0 false)) 3000 17 (false :: false :: way17) zS11) = true := by kernel_rfl
end Go.Ev
namespace Go.Ev
open Go Go.RowKit Go.Proofs
set_option maxRecDepth 1000000
theorem neg_S0x0 : chkR .normal [] [(23, .y 26), (27, .y 27), (21, .y 21), (22, .y 22), (50, .y 50), (52, .y 52), (73, .y 73), (112, .y 112)] [(20, .y 20), (70, .y 70), (71, .y 71), (72, .y 72), (73, .y 73)] zS0x0 (passOf (KP (tabI1 true) (exI exB)) 3000 17 (false :: false :: way17) zS0x0) = true := by kernel_rfl
theorem no0_S0x0 : chkR .normal [] [(23, .y 26), (27, .y 27), (21, .y 21), (22, .y 22), (50, .y 50), (52, .y 52), (73, .y 73), (112, .y 112)] [(20, .y 20), (70, .y 70), (71, .y 71), (72, .y 72), (73, .y 73)] zS0x0 (passOf (KP (tabI2 0) (exI exB)) 3000 17 (false :: false :: way17) zS0x0) = true := by kernel_rfl
theorem no1_S0x0 : chkR .normal [] [(23, .y 26), (27, .y 27), (21, .y 21), (22, .y 22), (50, .y 50), (52, .y 52), (73, .y 73), (112, .y 112)] [(20, .y 20), (70, .y 70), (71, .y 71), (72, .y 72), (73, .y 73)] zS0x0 (passOf (KP (tabI2 1 ++ tabN 0) (exT (xlN 0) (exI exB))) 3000 17 (false :: false :: way17) zS0x0) = true := by kernel_rfl
theorem end_S0x0 : chkR (.exit 0) [] [(23, .y 23), (27, .y 27), (21, .y 21), (22, .y 22), (50, .y 50), (52, .y 52), (73, .y 73), (112, .y 112)] [(20, .y 20), (70, .y 70), (71, .y 71), (72, .y 72), (73, .y 73)] zS0x0 (passOf (KP0 (tabI0 false)) 3000 17 (false :: false :: way17) zS0x0) = true := by kernel_rfl
end Go.Ev
namespace Go.Ev
open Go Go.RowKit Go.Proofs
set_option maxRecDepth 1000000
theorem neg_S0x1 : chkR .normal [] [(23, .y 26), (27, .y 27), (21, .y 21), (22, .y 22), (50, .y 50), (52, .y 52), (73, .y 73), (112, .y 112)] [(20, .y 20), (70, .y 70), (71, .y 71), (72, .y 72), (73, .y 73)] zS0x1 (passOf (KP (tabI1 true) (exI exB)) 3000 17 (false :: false :: way17) zS0x1) = true := by kernel_rfl
theorem no0_S0x1 : chkR .normal [] [(23, .y 26), (27, .y 27), (21, .y 21), (22, .y 22), (50, .y 50), (52, .y 52), (73, .y 73), (112, .y 112)] [(20, .y 20), (70, .y 70), (71, .y 71), (72, .y 72), (73, .y 73)] zS0x1 (passOf (KP (tabI2 0) (exI exB)) 3000 17 (false :: false :: way17) zS0x1) = true := by kernel_rfl
theorem no1_S0x1 : chkR .normal [] [(23, .y 26), (27, .y 27), (21, .y 21), (22, .y 22), (50, .y 50), (52, .y 52), (73, .y 73), (112, .y 112)] [(20, .y 20), (70, .y 70), (71, .y 71), (72, .y 72), (73, .y 73)] zS0x1 (passOf (KP (tabI2 1 ++ tabN 0) (exT (xlN 0) (exI exB))) 3000 17 (false :: false :: way17) zS0x1) = true := by kernel_rfl
theorem end_S0x1 : chkR (.exit 0) [] [(23, .y 23), (27, .y 27), (21, .y 21), (22, .y 22), (50, .y 50), (52, .y 52), (73, .y 73), (112, .y 112)] [(20, .y 20), (70, .y 70), (71, .y 71), (72, .y 72), (73, .y 73)] zS0x1 (passOf (KP0 (tabI0 false)) 3000 17 (false :: false :: way17) zS0x1) = true := by kernel_rfl
end Go.Ev
namespace Go.Ev
open Go Go.RowKit Go.Proofs
set_option maxRecDepth 1000000
theorem neg_S0x2 : chkR .normal [] [(23, .y 26), (27, .y 27), (21, .y 21), (22, .y 22), (50, .y 50), (52, .y 52), (73, .y 73), (112, .y 112)] [(20, .y 20), (70, .y 70), (71, .y 71), (72, .y 72), (73, .y 73)] zS0x2 (passOf (KP (tabI1 true) (exI exB)) 3000 17 (false :: false :: way17) zS0x2) = true := by kernel_rfl
theorem no0_S0x2 : chkR .normal [] [(23, .y 26), (27, .y 27), (21, .y 21), (22, .y 22), (50, .y 50), (52, .y 52), (73, .y 73), (112, .y 112)] [(20, .y 20), (70, .y 70), (71, .y 71), (72, .y 72), (73, .y 73)] zS0x2 (passOf (KP (tabI2 0) (exI exB)) 3000 17 (false :: false :: way17) zS0x2) = true := by kernel_rfl
theorem no1_S0x2 : chkR .normal [] [(23, .y 26), (27, .y 27), (21, .y 21), (22, .y 22), (50, .y 50), (52, .y 52), (73, .y 73), (112, .y 112)] [(20, .y 20), (70, .y 70), (71, .y 71), (72, .y 72), (73, .y 73)] zS0x2 (passOf (KP (tabI2 1 ++ tabN 0) (exT (xlN 0) (exI exB))) 3000 17 (false :: false :: way17) zS0x2) = true := by kernel_rfl
theorem end_S0x2 : chkR (.exit 0) [] [(23, .y 23), (27, .y 27), (21, .y 21), (22, .y 22), (50, .y 50), (52, .y 52), (73, .y 73), (112, .y 112)] [(20, .y 20), (70, .y 70), (71, .y 71), (72, .y 72), (73, .y 73)] zS0x2 (passOf (KP0 (tabI0 false)) 3000 17 (false :: false :: way17) zS0x2) = true := by kernel_rfl
end Go.Ev
namespace Go.Ev
open Go Go.RowKit Go.Proofs
set_option maxRecDepth 1000000
theorem neg_S0x3 : chkR .normal [] [(23, .y 26), (27, .y 27), (21, .y 21), (22, .y 22), (50, .y 50), (52, .y 52), (73, .y 73), (112, .y 112)] [(20, .y 20), (70, .y 70), (71, .y 71), (72, .y 72), (73, .y 73)] zS0x3 (passOf (KP (tabI1 true) (exI exB)) 3000 17 (false :: false :: way17) zS0x3) = true := by kernel_rfl
theorem no0_S0x3 : chkR .normal [] [(23, .y 26), (27, .y 27), (21, .y 21), (22, .y 22), (50, .y 50), (52, .y 52), (73, .y 73), (112, .y 112)] [(20, .y 20), (70, .y 70), (71, .y 71), (72, .y 72), (73, .y 73)] zS0x3 (passOf (KP (tabI2 0) (exI exB)) 3000 17 (false :: false :: way17) zS0x3) = true := by kernel_rfl
theorem no1_S0x3 : chkR .normal [] [(23, .y 26), (27, .y 27), (21, .y 21), (22, .y 22), (50, .y 50), (52, .y 52), (73, .y 73), (112, .y 112)] [(20, .y 20), (70, .y 70), (71, .y 71), (72, .y 72), (73, .y 73)] zS0x3 (passOf (KP (tabI2 1 ++ tabN 0) (exT (xlN 0) (exI exB))) 3000 17 (false :: false :: way17) zS0x3) = true := by kernel_rfl
theorem end_S0x3 : chkR (.exit 0) [] [(23, .y 23), (27, .y 27), (21, .y 21), (22, .y 22), (50, .y 50), (52, .y 52), (73, .y 73), (112, .y 112)] [(20, .y 20), (70, .y 70), (71, .y 71), (72, .y 72), (73, .y 73)] zS0x3 (passOf (KP0 (tabI0 false)) 3000 17 (false :: false :: way17) zS0x3) = true := by kernel_rfl
end Go.Ev
namespace Go.Ev
open Go Go.RowKit Go.Proofs
set_option maxRecDepth 1000000
theorem neg_S0x4 : chkR .normal [] [(23, .y 26), (27, .y 27), (21, .y 21), (22, .y 22), (50, .y 50), (52, .y 52), (73, .y 73), (112, .y 112)] [(20, .y 20), (70, .y 70), (71, .y 71), (72, .y 72), (73, .y 73)] zS0x4 (passOf (KP (tabI1 true) (exI exB)) 3000 17 (false :: false :: way17) zS0x4) = true := by kernel_rfl
theorem no0_S0x4 : chkR .normal [] [(23, .y 26), (27, .y 27), (21, .y 21), (22, .y 22), (50, .y 50), (52, .y 52), (73, .y 73), (112, .y 112)] [(20, .y 20), (70, .y 70), (71, .y 71), (72, .y 72), (73, .y 73)] zS0x4 (passOf (KP (tabI2 0) (exI exB)) 3000 17 (false :: false :: way17) zS0x4) = true := by kernel_rfl
theorem no1_S0x4 : chkR .normal [] [(23, .y 26), (27, .y 27), (21, .y 21), (22, .y 22), (50, .y 50), (52, .y 52), (73, .y 73), (112, .y 112)] [(20, .y 20), (70, .y 70), (71, .y 71), (72, .y 72), (73, .y 73)] zS0x4 (passOf (KP (tabI2 1 ++ tabN 0) (exT (xlN 0) (exI exB))) 3000 17 (false :: false :: way17) zS0x4) = true := by kernel_rfl
theorem end_S0x4 : chkR (.exit 0) [] [(23, .y 23), (27, .y 27), (21, .y 21), (22, .y 22), (50, .y 50), (52, .y 52), (73, .y 73), (112, .y 112)] [(20, .y 20), (70, .y 70), (71, .y 71), (72, .y 72), (73, .y 73)] zS0x4 (passOf (KP0 (tabI0 false)) 3000 17 (false :: false :: way17) zS0x4) = true := by kernel_rfl
end Go.Ev
