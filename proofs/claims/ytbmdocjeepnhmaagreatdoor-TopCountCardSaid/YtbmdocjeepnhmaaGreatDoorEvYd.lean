/- Passes of the loops that feed the connections. -/
import Derived.Test.YtbmdocjeepnhmaaGreatDoorEvQr
set_option linter.unusedVariables false
set_option linter.unusedSimpArgs false
set_option linter.unusedSectionVars false
namespace Go.Ev
open Go Go.RowKit Go.Proofs
set_option maxRecDepth 1000000
def idL : List (Nat × A1) := [(21, .y 21), (50, .y 50), (51, .y 51), (52, .y 52), (58, .y 58)]
def prevL (c : Nat) : List (Nat × A1) := (List.range c).map fun k => (32 + k, .y (32 + k))
def prevO (c : Nat) : List (Nat × AO) := (List.range c).map fun k => (12 + k, .y (12 + k))
def gIn (c : Nat) : List (Nat × A1) := (32 + c, .y 40) :: (60, .y 61) :: (prevL c ++ idL)
def gIe (c : Nat) : List (Nat × A1) := (32 + c, .y (32 + c)) :: (60, .y 60) :: (prevL c ++ idL)
def oIn (c : Nat) : List (Nat × AO) := (12 + c, .y 40) :: prevO c
def oIe (c : Nat) : List (Nat × AO) := (12 + c, .y (12 + c)) :: prevO c
def gIX (c : Nat) : List (Nat × A1) := (32 + c, .y (32 + c)) :: (prevL c ++ idL)
noncomputable def KI (c : Nat) (more : Bool) : Hk := KL (tabIn c more) [] (exI exB) []
theorem ipass0 : chkR .normal [(733, 735)] (gIn 0) (oIn 0) sI0 (passOf (KI 0 true) 3000 4 (false :: false :: way4) sI0) = true := by kernel_rfl
theorem iend0 : chkR (.exit 4) [] (gIe 0) (oIe 0) sI0 (passOf (KI 0 false) 3000 4 (false :: false :: way4) sI0) = true := by kernel_rfl
theorem ipass1 : chkR .normal [(743, 745)] (gIn 1) (oIn 1) sI1 (passOf (KI 1 true) 3000 4 (false :: false :: way4) sI1) = true := by kernel_rfl
theorem iend1 : chkR (.exit 4) [] (gIe 1) (oIe 1) sI1 (passOf (KI 1 false) 3000 4 (false :: false :: way4) sI1) = true := by kernel_rfl
theorem ipass2 : chkR .normal [(755, 757)] (gIn 2) (oIn 2) sI2 (passOf (KI 2 true) 3000 4 (false :: false :: way4) sI2) = true := by kernel_rfl
theorem iend2 : chkR (.exit 4) [] (gIe 2) (oIe 2) sI2 (passOf (KI 2 false) 3000 4 (false :: false :: way4) sI2) = true := by kernel_rfl
theorem iout0 : chkSt [] (gIX 0) (oIe 0) sIX0 sI0 = true := by kernel_rfl
theorem iout1 : chkSt [] (gIX 1) (oIe 1) sIX1 sI1 = true := by kernel_rfl
theorem iout2 : chkSt [] (gIX 2) (oIe 2) sIX2 sI2 = true := by kernel_rfl
theorem n_I0 : sI0.h.n = 734 := by kernel_rfl
theorem n_I1 : sI1.h.n = 744 := by kernel_rfl
theorem n_I2 : sI2.h.n = 756 := by kernel_rfl
theorem n_IX0 : sIX0.h.n = 734 := by kernel_rfl
theorem n_IX1 : sIX1.h.n = 744 := by kernel_rfl
theorem n_IX2 : sIX2.h.n = 756 := by kernel_rfl
theorem keeps_I0 : (List.range 734).all (fun k => Nat.beq (nmF [(733, 735)] k) k || [733].any (Nat.beq k)) = true := by kernel_rfl
theorem keeps_I1 : (List.range 744).all (fun k => Nat.beq (nmF [(743, 745)] k) k || [743].any (Nat.beq k)) = true := by kernel_rfl
theorem keeps_I2 : (List.range 756).all (fun k => Nat.beq (nmF [(755, 757)] k) k || [755].any (Nat.beq k)) = true := by kernel_rfl
theorem keeps_Ie (n : Nat) (d : List Nat) : (List.range n).all (fun k => Nat.beq (nmF [] k) k || d.any (Nat.beq k)) = true := by
 rw [List.all_eq_true]
 intro k _
 show (Nat.beq k k || _) = true
 rw [show Nat.beq k k = true from Nat.beq_refl k]
 rfl
theorem id_in : (codeAt 4 way4).bind loopId = some 4 := by kernel_rfl
noncomputable def rowIn (c : Nat) (s0 sX : St) (sp : Nat) : LoR where
 f := 4
 p := way4
 s0 := s0
 fl := [(bufN (c + 2), sp)]
 g := (32 + c, .nils) :: (60, .i .i64 0) :: (prevL c ++ idL)
 ol := (12 + c, .row 5 1 [.i .u8 (spB (c + 2))]) :: prevO c
 sX := sX
 x := .normal
 flOut := []
 dead := [bufN (c + 2)]
end Go.Ev
