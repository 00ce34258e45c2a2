/- Passes of all's loop: something was done; nothing. -/
import Derived.Test.YtbmdocjeepnhmaaGreatDoorEvQr
set_option linter.unusedVariables false
set_option linter.unusedSimpArgs false
set_option linter.unusedSectionVars false
namespace Go.Ev
open Go Go.RowKit Go.Proofs
set_option maxRecDepth 1000000
def tabA (z : Bool) : List Rl := [.bin .lss (.y 62) (.i .i64 3000) (.b true), .bin .eql (.y 90) (.i .i64 0) (.b z), .bin .add (.y 62) (.i .i64 1) (.y 63)]
def fA : List (Nat × Nat) := [(756, 763), (757, 764), (758, 765)]
def gAw (k : Nat) : List (Nat × A1) := [(0, .y 70), (1, .y 71), (2, .y 72), (32, .y 75), (33, .y 76), (34, .y 77), (62, .y k)]
def oA : List (Nat × AO) := [(0, .y 70), (12, .y 12), (13, .y 13), (14, .y 14)]
def deadA : List Nat := [756, 757, 758]
theorem apass_more : chkR .normal fA (gAw 63) oA sA (passOf (KL (tabA false) [] (exI exB) [rowRun2]) 3000 18 (false :: false :: way18) sA) = true := by kernel_rfl
theorem apass_end : chkR .ret fA (gAw 62) oA sA (passOf (KL (tabA true) [] (exI exB) [rowRun2]) 3000 18 (false :: false :: way18) sA) = true := by kernel_rfl
noncomputable def rowAll : LoR where
 f := 18
 p := way18
 s0 := sA
 fl := [(759, 756), (760, 757), (761, 758)]
 g := [(0, .y 70), (1, .y 71), (2, .y 72), (32, .y 75), (33, .y 76), (34, .y 77), (62, .i .i64 0)]
 ol := [(0, .y 70), (12, .y 12), (13, .y 13), (14, .y 14)]
 sX := sAX
 x := .ret
 flOut := [(756, 759), (757, 760), (758, 761), (759, 756), (760, 757), (761, 758)]
 dead := deadA
def gOutA : List (Nat × A1) := [(80, .y 0), (81, .y 1), (82, .y 2), (85, .y 32), (86, .y 33), (87, .y 34)]
def oOutA : List (Nat × AO) := [(80, .y 0), (12, .y 12), (13, .y 13), (14, .y 14)]
theorem out_all : chkSt rowAll.flOut gOutA oOutA sAX sA = true := by kernel_rfl
theorem n_A : sA.h.n = 762 := by kernel_rfl
theorem n_AX : sAX.h.n = 762 := by kernel_rfl
theorem keeps_A : (List.range 762).all (fun k => Nat.beq (nmF fA k) k || deadA.any (Nat.beq k)) = true := by kernel_rfl
theorem id_all : (codeAt 18 way18).bind loopId = some 0 := by kernel_rfl
end Go.Ev
