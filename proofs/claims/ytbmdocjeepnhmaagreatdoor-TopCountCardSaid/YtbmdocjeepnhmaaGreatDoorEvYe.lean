/- TopCount, run whole, with letters; and where it has nothing to ask. -/
import Derived.Test.YtbmdocjeepnhmaaGreatDoorEvYd
import Derived.Test.YtbmdocjeepnhmaaGreatDoorEvYc
import Derived.Test.YtbmdocjeepnhmaaGreatDoorEvPa8
import Derived.Test.YtbmdocjeepnhmaaGreatDoorEvPo10
set_option linter.unusedVariables false
set_option linter.unusedSimpArgs false
set_option linter.unusedSectionVars false
namespace Go.Ev
open Go Go.RowKit Go.Proofs
set_option maxRecDepth 1000000
def tabPre (c : Nat) (p : A1) : List Rl := [.bin .lss (.y (50 + c)) (.i .i64 0) (.b false), .bin .gtr (.y (50 + c)) (.i .i64 12) (.b false), .bin .mul (.y (50 + c)) (.i .i64 ((c : Int) + 1)) (.y (53 + c)), .bin .add p (.y (53 + c)) (.y (56 + c))]
def tabPre3 : List Rl := tabPre 0 (.i .i64 0) ++ (tabPre 1 (.y 56) ++ tabPre 2 (.y 57))
def tabF : List Rl := [.bin .gtr (.y 22) (.i .i64 60) (.b false), .cnv 3 35 (.y 58) (.y 92), .bin .eql (.y 81) (.y 91) (.b true)] ++ tabPre3
def xlF : List Xl := [⟨16, [.v (.one (.y 92))], none, .v (.one (.y 91))⟩]
noncomputable def exF : CallT := memo 8 Xa8 Ha8 Ra8 (memo 10 Xo10 Ho10 Ro10 (exI exB))
theorem exF_ok {S : Sy} {w0 : World} : @CallOk S Tryz.prog w0 exF := memo2_ok Ka8_ok run_a8 fr_a8 (memo2_ok Ko10_ok run_o10 fr_o10 (exI_ok (@exB_ok S w0)))
noncomputable def rowsF : List LoR := [rowIn 0 sI0 sIX0 489, rowIn 1 sI1 sIX1 490, rowIn 2 sI2 sIX2 491, rowRun1, rowAll]
/-- How many picks. -/
def ruLen (A : Fr) (h : Hp) (o : Oper) : Option (AV × List U) := match o.op with
 | .call c => match c.callee with
   | .builtin .len => if allSome (evA A) c.args.toList = some [.v (.one (.y 21))] ∧ c.argTypes.toList = [40] then some (.v (.one (.y 22)), []) else none
   | _ => none
 | _ => none
def ruL (p : Program) (tab : List Rl) (A : Fr) (h : Hp) (o : Oper) : Option (AV × List U) := match ruLen A h o with
 | some r => some r
 | none => ruAll p tab A h o
noncomputable def KLL (tab : List Rl) (xl : List Xl) (ex : CallT) (lo : List LoR) : Hk := ⟨exT xl ex, ruL Tryz.prog tab, pureT tab, loR lo⟩
noncomputable def KF : Hk := KLL tabF xlF exF rowsF
def args4 : List AV := [.v (.agg [.y 50, .y 51, .y 52]), .v (.one (.y 21))]
def h04 : Hp := ⟨.lf none, 1⟩
def isTrue (r : Option (AV × Hp)) : Bool := match r with
 | some (.v (.one (.b true)), h) => true
 | _ => false
theorem run4 : isTrue (callG Tryz.prog KF (evG Tryz.prog KF 3000) 4 args4 h04) = true := by kernel_rfl
noncomputable def KB4 (tab : List Rl) : Hk := KLL tab [] exF []
def bad0 (c : Nat) : List Rl := [.bin .lss (.y (50 + c)) (.i .i64 0) (.b true)]
def bad1 (c : Nat) : List Rl := [.bin .lss (.y (50 + c)) (.i .i64 0) (.b false), .bin .gtr (.y (50 + c)) (.i .i64 12) (.b true)]
def tabB : Nat → List Rl
 | 0 => bad0 0
 | 1 => bad1 0
 | 2 => bad0 1 ++ tabPre 0 (.i .i64 0)
 | 3 => bad1 1 ++ tabPre 0 (.i .i64 0)
 | 4 => bad0 2 ++ (tabPre 0 (.i .i64 0) ++ tabPre 1 (.y 56))
 | 5 => bad1 2 ++ (tabPre 0 (.i .i64 0) ++ tabPre 1 (.y 56))
 | _ => [.bin .gtr (.y 22) (.i .i64 60) (.b true)] ++ tabPre3
theorem bad_all : (List.range 7).all (fun k => isTrue (callG Tryz.prog (KB4 (tabB k)) (evG Tryz.prog (KB4 (tabB k)) 3000) 4 args4 h04)) = true := by kernel_rfl
end Go.Ev
