/- Two small words more for the walks over chapter 4. -/
import Derived.Test.YtefalfheeofhhaaXConv
namespace Go.Proofs.YtefalfheeofhhaaW.PrintWords
open Go.RowKit
theorem bsize_one (x : UInt8) : (⟨#[x]⟩ : ByteArray).size = 1 := rfl
section
variable {P : Program} {ops : Array Oper} {rest : List Oper} {o : Oper} {a : Act} {Q : Exit → Act → World → Prop}
/-- 'string(b)' as a step of its own. -/
theorem str_gate {W : World} (hgd : o.guard = none) {src dst : TypeId} {x : Operand} (ho : o.op = .convert src dst x) {v : Value} {s : ByteArray} (hr : (convert src dst v).run P W = .ok (.string s) W) (hx : a.eval x = v)
    (h : wpList P ops Q rest (a.put o.dst (.string s)) W) : wpList P ops Q (o :: rest) a W := by
  refine Kd.event_run hgd ?_ h
  simp [execOp, ho, hx, hr]
end
end Go.Proofs.YtefalfheeofhhaaW.PrintWords
