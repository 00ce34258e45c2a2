/- Passes of Run that do nothing, in one state. -/
import Derived.Test.YtbmdocjeepnhmaaGreatDoorEwZ
set_option linter.unusedVariables false
set_option linter.unusedSimpArgs false
set_option linter.unusedSectionVars false
namespace Go.Ev
open Go Go.RowKit Go.Proofs
set_option maxRecDepth 1000000
theorem neg_T0x1 : chkR .normal [] [(23, .y 26), (27, .y 27), (21, .y 21), (22, .y 22), (50, .y 50), (52, .y 52), (53, .y 53), (112, .y 112), (113, .y 113)] [(20, .y 20), (70, .y 70), (71, .y 71), (72, .y 72), (73, .y 73)] zT0x1 (passOf (KP (tabI1 true) (exI exB)) 3000 17 (false :: false :: way17) zT0x1) = true := by kernel_rfl
theorem no0_T0x1 : chkR .normal [] [(23, .y 26), (27, .y 27), (21, .y 21), (22, .y 22), (50, .y 50), (52, .y 52), (53, .y 53), (112, .y 112), (113, .y 113)] [(20, .y 20), (70, .y 70), (71, .y 71), (72, .y 72), (73, .y 73)] zT0x1 (passOf (KP (tabI2 0) (exI exB)) 3000 17 (false :: false :: way17) zT0x1) = true := by kernel_rfl
theorem no1_T0x1 : chkR .normal [] [(23, .y 26), (27, .y 27), (21, .y 21), (22, .y 22), (50, .y 50), (52, .y 52), (53, .y 53), (112, .y 112), (113, .y 113)] [(20, .y 20), (70, .y 70), (71, .y 71), (72, .y 72), (73, .y 73)] zT0x1 (passOf (KP (tabI2 1 ++ tabN 0) (exT (xlN 0) (exI exB))) 3000 17 (false :: false :: way17) zT0x1) = true := by kernel_rfl
theorem no2_T0x1 : chkR .normal [] [(23, .y 26), (27, .y 27), (21, .y 21), (22, .y 22), (50, .y 50), (52, .y 52), (53, .y 53), (112, .y 112), (113, .y 113)] [(20, .y 20), (70, .y 70), (71, .y 71), (72, .y 72), (73, .y 73)] zT0x1 (passOf (KP (tabI2 2 ++ tabN 1) (exT (xlN 1) (exI exB))) 3000 17 (false :: false :: way17) zT0x1) = true := by kernel_rfl
theorem end_T0x1 : chkR (.exit 0) [] [(23, .y 23), (27, .y 27), (21, .y 21), (22, .y 22), (50, .y 50), (52, .y 52), (53, .y 53), (112, .y 112), (113, .y 113)] [(20, .y 20), (70, .y 70), (71, .y 71), (72, .y 72), (73, .y 73)] zT0x1 (passOf (KP0 (tabI0 false)) 3000 17 (false :: false :: way17) zT0x1) = true := by kernel_rfl
end Go.Ev
namespace Go.Ev
open Go Go.RowKit Go.Proofs
set_option maxRecDepth 1000000
theorem neg_T0x2 : chkR .normal [] [(23, .y 26), (27, .y 27), (21, .y 21), (22, .y 22), (50, .y 50), (52, .y 52), (53, .y 53), (112, .y 112), (113, .y 113)] [(20, .y 20), (70, .y 70), (71, .y 71), (72, .y 72), (73, .y 73)] zT0x2 (passOf (KP (tabI1 true) (exI exB)) 3000 17 (false :: false :: way17) zT0x2) = true := by kernel_rfl
theorem no0_T0x2 : chkR .normal [] [(23, .y 26), (27, .y 27), (21, .y 21), (22, .y 22), (50, .y 50), (52, .y 52), (53, .y 53), (112, .y 112), (113, .y 113)] [(20, .y 20), (70, .y 70), (71, .y 71), (72, .y 72), (73, .y 73)] zT0x2 (passOf (KP (tabI2 0) (exI exB)) 3000 17 (false :: false :: way17) zT0x2) = true := by kernel_rfl
theorem no1_T0x2 : chkR .normal [] [(23, .y 26), (27, .y 27), (21, .y 21), (22, .y 22), (50, .y 50), (52, .y 52), (53, .y 53), (112, .y 112), (113, .y 113)] [(20, .y 20), (70, .y 70), (71, .y 71), (72, .y 72), (73, .y 73)] zT0x2 (passOf (KP (tabI2 1 ++ tabN 0) (exT (xlN 0) (exI exB))) 3000 17 (false :: false :: way17) zT0x2) = true := by kernel_rfl
theorem no2_T0x2 : chkR .normal [] [(23, .y 26), (27, .y 27), (21, .y 21), (22, .y 22), (50, .y 50), (52, .y 52), (53, .y 53), (112, .y 112), (113, .y 113)] [(20, .y 20), (70, .y 70), (71, .y 71), (72, .y 72), (73, .y 73)] zT0x2 (passOf (KP (tabI2 2 ++ tabN 1) (exT (xlN 1) (exI exB))) 3000 17 (false :: false :: way17) zT0x2) = true := by kernel_rfl
theorem end_T0x2 : chkR (.exit 0) [] [(23, .y 23), (27, .y 27), (21, .y 21), (22, .y 22), (50, .y 50), (52, .y 52), (53, .y 53), (112, .y 112), (113, .y 113)] [(20, .y 20), (70, .y 70), (71, .y 71), (72, .y 72), (73, .y 73)] zT0x2 (passOf (KP0 (tabI0 false)) 3000 17 (false :: false :: way17) zT0x2) = true := by kernel_rfl
end Go.Ev
namespace Go.Ev
open Go Go.RowKit Go.Proofs
set_option maxRecDepth 1000000
theorem neg_T0x3 : chkR .normal [] [(23, .y 26), (27, .y 27), (21, .y 21), (22, .y 22), (50, .y 50), (52, .y 52), (53, .y 53), (112, .y 112), (113, .y 113)] [(20, .y 20), (70, .y 70), (71, .y 71), (72, .y 72), (73, .y 73)] zT0x3 (passOf (KP (tabI1 true) (exI exB)) 3000 17 (false :: false :: way17) zT0x3) = true := by kernel_rfl
theorem no0_T0x3 : chkR .normal [] [(23, .y 26), (27, .y 27), (21, .y 21), (22, .y 22), (50, .y 50), (52, .y 52), (53, .y 53), (112, .y 112), (113, .y 113)] [(20, .y 20), (70, .y 70), (71, .y 71), (72, .y 72), (73, .y 73)] zT0x3 (passOf (KP (tabI2 0) (exI exB)) 3000 17 (false :: false :: way17) zT0x3) = true := by kernel_rfl
theorem no1_T0x3 : chkR .normal [] [(23, .y 26), (27, .y 27), (21, .y 21), (22, .y 22), (50, .y 50), (52, .y 52), (53, .y 53), (112, .y 112), (113, .y 113)] [(20, .y 20), (70, .y 70), (71, .y 71), (72, .y 72), (73, .y 73)] zT0x3 (passOf (KP (tabI2 1 ++ tabN 0) (exT (xlN 0) (exI exB))) 3000 17 (false :: false :: way17) zT0x3) = true := by kernel_rfl
theorem no2_T0x3 : chkR .normal [] [(23, .y 26), (27, .y 27), (21, .y 21), (22, .y 22), (50, .y 50), (52, .y 52), (53, .y 53), (112, .y 112), (113, .y 113)] [(20, .y 20), (70, .y 70), (71, .y 71), (72, .y 72), (73, .y 73)] zT0x3 (passOf (KP (tabI2 2 ++ tabN 1) (exT (xlN 1) (exI exB))) 3000 17 (false :: false :: way17) zT0x3) = true := by kernel_rfl
theorem end_T0x3 : chkR (.exit 0) [] [(23, .y 23), (27, .y 27), (21, .y 21), (22, .y 22), (50, .y 50), (52, .y 52), (53, .y 53), (112, .y 112), (113, .y 113)] [(20, .y 20), (70, .y 70), (71, .y 71), (72, .y 72), (73, .y 73)] zT0x3 (passOf (KP0 (tabI0 false)) 3000 17 (false :: false :: way17) zT0x3) = true := by kernel_rfl
end Go.Ev
namespace Go.Ev
open Go Go.RowKit Go.Proofs
set_option maxRecDepth 1000000
theorem neg_T0x4 : chkR .normal [] [(23, .y 26), (27, .y 27), (21, .y 21), (22, .y 22), (50, .y 50), (52, .y 52), (53, .y 53), (112, .y 112), (113, .y 113)] [(20, .y 20), (70, .y 70), (71, .y 71), (72, .y 72), (73, .y 73)] zT0x4 (passOf (KP (tabI1 true) (exI exB)) 3000 17 (false :: false :: way17) zT0x4) = true := by kernel_rfl
theorem no0_T0x4 : chkR .normal [] [(23, .y 26), (27, .y 27), (21, .y 21), (22, .y 22), (50, .y 50), (52, .y 52), (53, .y 53), (112, .y 112), (113, .y 113)] [(20, .y 20), (70, .y 70), (71, .y 71), (72, .y 72), (73, .y 73)] zT0x4 (passOf (KP (tabI2 0) (exI exB)) 3000 17 (false :: false :: way17) zT0x4) = true := by kernel_rfl
theorem no1_T0x4 : chkR .normal [] [(23, .y 26), (27, .y 27), (21, .y 21), (22, .y 22), (50, .y 50), (52, .y 52), (53, .y 53), (112, .y 112), (113, .y 113)] [(20, .y 20), (70, .y 70), (71, .y 71), (72, .y 72), (73, .y 73)] zT0x4 (passOf (KP (tabI2 1 ++ tabN 0) (exT (xlN 0) (exI exB))) 3000 17 (false :: false :: way17) zT0x4) = true := by kernel_rfl
theorem no2_T0x4 : chkR .normal [] [(23, .y 26), (27, .y 27), (21, .y 21), (22, .y 22), (50, .y 50), (52, .y 52), (53, .y 53), (112, .y 112), (113, .y 113)] [(20, .y 20), (70, .y 70), (71, .y 71), (72, .y 72), (73, .y 73)] zT0x4 (passOf (KP (tabI2 2 ++ tabN 1) (exT (xlN 1) (exI exB))) 3000 17 (false :: false :: way17) zT0x4) = true := by kernel_rfl
theorem end_T0x4 : chkR (.exit 0) [] [(23, .y 23), (27, .y 27), (21, .y 21), (22, .y 22), (50, .y 50), (52, .y 52), (53, .y 53), (112, .y 112), (113, .y 113)] [(20, .y 20), (70, .y 70), (71, .y 71), (72, .y 72), (73, .y 73)] zT0x4 (passOf (KP0 (tabI0 false)) 3000 17 (false :: false :: way17) zT0x4) = true := by kernel_rfl
end Go.Ev
namespace Go.Ev
open Go Go.RowKit Go.Proofs
set_option maxRecDepth 1000000
theorem neg_T1x0 : chkR .normal [] [(23, .y 26), (27, .y 27), (21, .y 21), (22, .y 22), (51, .y 51), (52, .y 52), (53, .y 53), (112, .y 112), (113, .y 113)] [(20, .y 20), (70, .y 70), (71, .y 71), (72, .y 72), (73, .y 73)] zT1x0 (passOf (KP (tabI1 true) (exI exB)) 3000 17 (false :: false :: way17) zT1x0) = true := by kernel_rfl
theorem no0_T1x0 : chkR .normal [] [(23, .y 26), (27, .y 27), (21, .y 21), (22, .y 22), (51, .y 51), (52, .y 52), (53, .y 53), (112, .y 112), (113, .y 113)] [(20, .y 20), (70, .y 70), (71, .y 71), (72, .y 72), (73, .y 73)] zT1x0 (passOf (KP (tabI2 0) (exI exB)) 3000 17 (false :: false :: way17) zT1x0) = true := by kernel_rfl
theorem no1_T1x0 : chkR .normal [] [(23, .y 26), (27, .y 27), (21, .y 21), (22, .y 22), (51, .y 51), (52, .y 52), (53, .y 53), (112, .y 112), (113, .y 113)] [(20, .y 20), (70, .y 70), (71, .y 71), (72, .y 72), (73, .y 73)] zT1x0 (passOf (KP (tabI2 1 ++ tabN 0) (exT (xlN 0) (exI exB))) 3000 17 (false :: false :: way17) zT1x0) = true := by kernel_rfl
theorem no2_T1x0 : chkR .normal [] [(23, .y 26), (27, .y 27), (21, .y 21), (22, .y 22), (51, .y 51), (52, .y 52), (53, .y 53), (112, .y 112), (113, .y 113)] [(20, .y 20), (70, .y 70), (71, .y 71), (72, .y 72), (73, .y 73)] zT1x0 (passOf (KP (tabI2 2 ++ tabN 1) (exT (xlN 1) (exI exB))) 3000 17 (false :: false :: way17) zT1x0) = true := by kernel_rfl
theorem end_T1x0 : chkR (.exit 0) [] [(23, .y 23), (27, .y 27), (21, .y 21), (22, .y 22), (51, .y 51), (52, .y 52), (53, .y 53), (112, .y 112), (113, .y 113)] [(20, .y 20), (70, .y 70), (71, .y 71), (72, .y 72), (73, .y 73)] zT1x0 (passOf (KP0 (tabI0 false)) 3000 17 (false :: false :: way17) zT1x0) = true := by kernel_rfl
end Go.Ev
namespace Go.Ev
open Go Go.RowKit Go.Proofs
set_option maxRecDepth 1000000
theorem neg_T1x1 : chkR .normal [] [(23, .y 26), (27, .y 27), (21, .y 21), (22, .y 22), (51, .y 51), (52, .y 52), (53, .y 53), (112, .y 112), (113, .y 113)] [(20, .y 20), (70, .y 70), (71, .y 71), (72, .y 72), (73, .y 73)] zT1x1 (passOf (KP (tabI1 true) (exI exB)) 3000 17 (false :: false :: way17) zT1x1) = true := by kernel_rfl
theorem no0_T1x1 : chkR .normal [] [(23, .y 26), (27, .y 27), (21, .y 21), (22, .y 22), (51, .y 51), (52, .y 52), (53, .y 53), (112, .y 112), (113, .y 113)] [(20, .y 20), (70, .y 70), (71, .y 71), (72, .y 72), (73, .y 73)] zT1x1 (passOf (KP (tabI2 0) (exI exB)) 3000 17 (false :: false :: way17) zT1x1) = true := by kernel_rfl
theorem no1_T1x1 : chkR .normal [] [(23, .y 26), (27, .y 27), (21, .y 21), (22, .y 22), (51, .y 51), (52, .y 52), (53, .y 53), (112, .y 112), (113, .y 113)] [(20, .y 20), (70, .y 70), (71, .y 71), (72, .y 72), (73, .y 73)] zT1x1 (passOf (KP (tabI2 1 ++ tabN 0) (exT (xlN 0) (exI exB))) 3000 17 (false :: false :: way17) zT1x1) = true := by kernel_rfl
theorem no2_T1x1 : chkR .normal [] [(23, .y 26), (27, .y 27), (21, .y 21), (22, .y 22), (51, .y 51), (52, .y 52), (53, .y 53), (112, .y 112), (113, .y 113)] [(20, .y 20), (70, .y 70), (71, .y 71), (72, .y 72), (73, .y 73)] zT1x1 (passOf (KP (tabI2 2 ++ tabN 1) (exT (xlN 1) (exI exB))) 3000 17 (false :: false :: way17) zT1x1) = true := by kernel_rfl
theorem end_T1x1 : chkR (.exit 0) [] [(23, .y 23), (27, .y 27), (21, .y 21), (22, .y 22), (51, .y 51), (52, .y 52), (53, .y 53), (112, .y 112), (113, .y 113)] [(20, .y 20), (70, .y 70), (71, .y 71), (72, .y 72), (73, .y 73)] zT1x1 (passOf (KP0 (tabI0 false)) 3000 17 (false :: false :: way17) zT1x1) = true := by kernel_rfl
end Go.Ev
