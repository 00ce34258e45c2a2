/- The tables of TopCount's loops. -/
import Derived.Test.YtbmdocjeepnhmaaGreatDoorEvZ
set_option linter.unusedVariables false
set_option linter.unusedSimpArgs false
set_option linter.unusedSectionVars false
namespace Go.Ev
open Go Go.RowKit Go.Proofs
def bufN (c : Nat) : Nat := if c = 2 then 733 else if c = 3 then 743 else 755
def lineB (c : Nat) : List Nat := [105, 110, 99, 114, 32, 110, 32, 47 + c, 32, 110, 111, 114, 101, 112, 108, 121]
/-- The byte of the block that stands for an empty one's. -/
def spB (c : Nat) : Int := bif Nat.beq c 4 then 49 else 48
def lineC (c : Nat) : List Nat := lineB c ++ [13, 10]
/-- Bytes, as cells. -/
def cellsU (l : List Nat) : List A1 := l.map fun (n : Nat) => .i .u8 (n : Int)
def entryC (c : Nat) : List A1 := [.i .i64 c, .b true, .s [97, 114, 105, 116, 104], .s [], .sl 802 0 1 (.ex 1), .s [], .i .u32 0, .i .i64 0, .i .u64 0, .i .u64 ((c : Int) - 1), .b false, .b false, .b false, .b true, .s [], .sl 872 0 1 (.ex 1), .b true, .i .i64 1000]
/-- A step of connection c that has a line. -/
def tabP (c : Nat) : List Rl := [
 .slc 23 (.y (30 + c)) none (some (.i .i64 17)) (.y 4),
 .len 23 (.y 4) (.i .i64 17),
 .slc 23 (.y 4) (some (.i .i64 16)) none (.y 5),
 .slc 23 (.y 4) none (some (.i .i64 16)) (.y 6),
 .slc 23 (.y (30 + c)) (some (.i .i64 18)) none (.y 7),
 .str 23 9 (.y 5) (bufN c) (10 + c) (.s [13]),
 .str 23 9 (.y 6) (bufN c) (10 + c) (.s (lineB c)),
 .len 23 (.y 6) (.i .i64 16),
 .bin .eql (.y 0) (.i .u64 18446744073709551615) (.b false),
 .bin .eql (.y 0) (.i .u64 64) (.b false),
 .bin .add (.y 0) (.i .u64 1) (.y 11),
 .bin .add (.y 8) (.i .u64 ((c : Int) - 1)) (.y 9),
 .len 9 (.y 10) (.y 13),
 .bin .leq (.y 13) (.i .i64 1024) (.b true),
 .bin .gtr (.y 11) (.i .u64 0) (.b true),
 .bin .add (.i .i64 33) (.y 13) (.y 14),
 .bin .leq (.y 14) (.i .i64 64) (.b true),
 .bin .geq (.y 14) (.i .i64 0) (.b true),
 .app 58 (.y 2) 591 0 880 1 18 (entryC c) (.y 12) 2,
 .bin .add (.y 27) (.i .i64 1) (.y 28)]
def tabNo (c : Nat) : List Rl := [.len 23 (.y (30 + c)) (.i .i64 0)]
def xlP (c : Nat) : List Xl := [⟨285, [.v (.one (.y 1))], none, .tup [.one (.y 8), .one (.b true)]⟩, ⟨286, [.v (.one (.y 9))], none, .v (.one (.y 10))⟩, ⟨274, [.v (.one (.y (30 + c))), .v (.one (.i .u8 10))], some (bufN c, 10 + c), .v (.one (.i .i64 17))⟩]
def xlNo (c : Nat) : List Xl := [⟨274, [.v (.one (.y (30 + c))), .v (.one (.i .u8 10))], none, .v (.one (.i .i64 (-1)))⟩]
/-- The pass over the picks. -/
def tabI0 (more : Bool) : List Rl := [.bin .lss (.y 23) (.y 22) (.b more)]
def tabI1 (neg : Bool) : List Rl := [.bin .lss (.y 23) (.y 22) (.b true), .bin .lss (.y 25) (.i .i64 0) (.b neg), .bin .add (.y 23) (.i .i64 1) (.y 26)]
def tabI2 (q : Nat) : List Rl := .bin .rem (.y 25) (.i .i64 4) (.i .i64 q) :: tabI1 false
def way17 : List Bool := [true, false, true, true]
def way18 : List Bool := [true]
def way4 : List Bool := [true, true, false, false, true, false, false, true, false, true, true, true, true, true, true, true, true]
/-- The picks: where the next stands, and what it is. -/
def ruPk (A : Fr) (h : Hp) (o : Oper) : Option (AV × List U) := match o.op with
 | .indexAddr t x i => if t = 40 ∧ evA A x = some (.v (.one (.y 21))) ∧ evA A i = some (.v (.one (.y 23))) then some (.v (.one (.y 24)), []) else none
 | .load t x => if t = 3 ∧ evA A x = some (.v (.one (.y 24))) ∧ h.get 0 = some (.y 20) then some (.v (.one (.y 25)), []) else none
 | _ => none
def ruP (p : Program) (tab : List Rl) (A : Fr) (h : Hp) (o : Oper) : Option (AV × List U) := match ruPk A h o with
 | some r => some r
 | none => ruAll p tab A h o
noncomputable def KP (tab : List Rl) (xl : List Xl) : Hk := ⟨exT xl (exI exB), ruP Tryz.prog tab, pureT tab, lo0⟩
noncomputable def KP0 (tab : List Rl) : Hk := ⟨exI exB, ruAll Tryz.prog tab, pureT tab, lo0⟩
/-- New letters, by the old. -/
def gNo : List (Nat × A1) := [(0, .y 0), (1, .y 1), (2, .y 2), (21, .y 21), (22, .y 22), (23, .y 26), (27, .y 27), (32, .y 32), (33, .y 33), (34, .y 34)]
def gP (c : Nat) : List (Nat × A1) := [(0, .y 11), (1, .y 10), (2, .y 12), (21, .y 21), (22, .y 22), (23, .y 26), (27, .y 28)] ++ [32, 33, 34].map fun q => (q, bif Nat.beq q (30 + c) then .y 7 else .y q)
def oNo : List (Nat × AO) := [(0, .y 0), (12, .y 12), (13, .y 13), (14, .y 14), (20, .y 20)]
def oP : List (Nat × AO) := [(0, .y 2), (12, .y 12), (13, .y 13), (14, .y 14), (20, .y 20)]
def fP : List (Nat × Nat) := [(575, 868), (577, 870), (591, 880)]
/-- The In loops. -/
def newN (c : Nat) : Nat := bufN (c + 2) + 2
def tabIn (c : Nat) (more : Bool) : List Rl := [.bin .lss (.y 60) (.y (50 + c)) (.b more), .bin .add (.y 60) (.i .i64 1) (.y 61), .app 23 (.y (32 + c)) (bufN (c + 2)) (12 + c) (newN c) 18 1 (cellsU (lineC (c + 2))) (.y 40) 40]
end Go.Ev
