/-
  No cell of these rows narrows 'for every input' (looked for: loops, veiled, ifaces, maps, wideKeys, modest, calm, conditions, laid).
  DERIVED. THE GIVEN ROWS OF THIS SEAT. 18 by the template 'for every input the law returns true; each argument reads behind the call as it read before'; 0 by the template 'total and deterministic' (their statements: YtefalfheeofhhaaTotals.lean).
  GIVEN WITH THE SEED: the statements are not yours to turn. If you find one false, say at which input.
  Laid BY PROGRAM, IN A SANDBOX (cutbox-rows.mjs): the forced cells as the released guide's own fill.sh prints them over the translation 0130a1d3f4ae1448… (all of the seat's roots in one cut). By AI agents, Wed Nov 11 2026. No macro, syntax, notation, axiom, sorry.
-/
import Derived.Test.YtefalfheeofhhaaChecked
import GoSem.Claim
import GoSem.ClaimJoined
import GoSem.ClaimMapViews
import Derived.JoinedTies
import Derived.KernelRfl
namespace Go.Proofs.Ytefalfheeofhhaa
/- THE CELL 'sum', in the pinned program and in every row, IS THE sha256 OF THE DUMP (.gsa) THAT YtefalfheeofhhaaProg.lean LOADS. Nothing in Lean hashes anything: it is a label: what it is worth is what the hold of that sum in a sandbox is worth. -/
noncomputable def Try.pinned : Pinned := { name := "ytefalfheeofhhaa", sum := "0130a1d3f4ae1448210496fc238d4bf979aeaad354c53c572573f651218513be", checked := Try.checked }
namespace Rows
def none {H : Type} : Left H := { results := [], args := [] }

/-- 'cellaretlaw1.SumKnown': WHATEVER THE INPUT: true; the input reads as it did. -/
def sumKnownSpec : ChangeSpec := { name := "sumKnown", fn := fun _ => fun
  | [] => { results := [.lit (.bool true)], args := [] }
  | _ => none }
def sumKnownRow : OpenClaim := { program := "ytefalfheeofhhaa", sum := "0130a1d3f4ae1448210496fc238d4bf979aeaad354c53c572573f651218513be", func := "cellaret/cellaretlaw1.SumKnown", spec := "sumKnown", apart := false }
def SumKnownSaid : Prop := sumKnownRow.holds Try.pinned (OpenSpec.ofChange sumKnownSpec)

/-- ITS FALSE NEIGHBOUR: 'it returns false'. Refute it at one input. -/
def sumKnownWrong : ChangeSpec := { name := "sumKnown", fn := fun _ => fun
  | [] => { results := [.lit (.bool false)], args := [] }
  | _ => none }
def SumKnownWrongFalsely : Prop := sumKnownRow.holds Try.pinned (OpenSpec.ofChange sumKnownWrong)

/-- 'cellaretlaw1.SumSays': WHATEVER THE INPUT: true; the input reads as it did. -/
def sumSaysSpec : ChangeSpec := { name := "sumSays", fn := fun _ => fun
  | [d1, d2, d3] => { results := [.lit (.bool true)], args := [d1, d2, d3] }
  | _ => none }
def sumSaysRow : OpenClaim := { program := "ytefalfheeofhhaa", sum := "0130a1d3f4ae1448210496fc238d4bf979aeaad354c53c572573f651218513be", func := "cellaret/cellaretlaw1.SumSays", spec := "sumSays", apart := false }
def SumSaysSaid : Prop := sumSaysRow.holds Try.pinned (OpenSpec.ofChange sumSaysSpec)

/-- ITS FALSE NEIGHBOUR: 'it returns false'. Refute it at one input. -/
def sumSaysWrong : ChangeSpec := { name := "sumSays", fn := fun _ => fun
  | [d1, d2, d3] => { results := [.lit (.bool false)], args := [d1, d2, d3] }
  | _ => none }
def SumSaysWrongFalsely : Prop := sumSaysRow.holds Try.pinned (OpenSpec.ofChange sumSaysWrong)

/-- 'cellaretlaw1.SumOn': WHATEVER THE INPUT: true; the input reads as it did. -/
def sumOnSpec : ChangeSpec := { name := "sumOn", fn := fun _ => fun
  | [d1, d2, d3] => { results := [.lit (.bool true)], args := [d1, d2, d3] }
  | _ => none }
def sumOnRow : OpenClaim := { program := "ytefalfheeofhhaa", sum := "0130a1d3f4ae1448210496fc238d4bf979aeaad354c53c572573f651218513be", func := "cellaret/cellaretlaw1.SumOn", spec := "sumOn", apart := false }
def SumOnSaid : Prop := sumOnRow.holds Try.pinned (OpenSpec.ofChange sumOnSpec)

/-- ITS FALSE NEIGHBOUR: 'it returns false'. Refute it at one input. -/
def sumOnWrong : ChangeSpec := { name := "sumOn", fn := fun _ => fun
  | [d1, d2, d3] => { results := [.lit (.bool false)], args := [d1, d2, d3] }
  | _ => none }
def SumOnWrongFalsely : Prop := sumOnRow.holds Try.pinned (OpenSpec.ofChange sumOnWrong)

/-- 'cellaretlaw1.SumLinear': WHATEVER THE INPUT: true; the input reads as it did. -/
def sumLinearSpec : ChangeSpec := { name := "sumLinear", fn := fun _ => fun
  | [d1, d2] => { results := [.lit (.bool true)], args := [d1, d2] }
  | _ => none }
def sumLinearRow : OpenClaim := { program := "ytefalfheeofhhaa", sum := "0130a1d3f4ae1448210496fc238d4bf979aeaad354c53c572573f651218513be", func := "cellaret/cellaretlaw1.SumLinear", spec := "sumLinear", apart := false }
def SumLinearSaid : Prop := sumLinearRow.holds Try.pinned (OpenSpec.ofChange sumLinearSpec)

/-- ITS FALSE NEIGHBOUR: 'it returns false'. Refute it at one input. -/
def sumLinearWrong : ChangeSpec := { name := "sumLinear", fn := fun _ => fun
  | [d1, d2] => { results := [.lit (.bool false)], args := [d1, d2] }
  | _ => none }
def SumLinearWrongFalsely : Prop := sumLinearRow.holds Try.pinned (OpenSpec.ofChange sumLinearWrong)

/-- 'cellaretlaw1.SumBytes': WHATEVER THE INPUT: true; the input reads as it did. -/
def sumBytesSpec : ChangeSpec := { name := "sumBytes", fn := fun _ => fun
  | [d1, d2, d3] => { results := [.lit (.bool true)], args := [d1, d2, d3] }
  | _ => none }
def sumBytesRow : OpenClaim := { program := "ytefalfheeofhhaa", sum := "0130a1d3f4ae1448210496fc238d4bf979aeaad354c53c572573f651218513be", func := "cellaret/cellaretlaw1.SumBytes", spec := "sumBytes", apart := false }
def SumBytesSaid : Prop := sumBytesRow.holds Try.pinned (OpenSpec.ofChange sumBytesSpec)

/-- ITS FALSE NEIGHBOUR: 'it returns false'. Refute it at one input. -/
def sumBytesWrong : ChangeSpec := { name := "sumBytes", fn := fun _ => fun
  | [d1, d2, d3] => { results := [.lit (.bool false)], args := [d1, d2, d3] }
  | _ => none }
def SumBytesWrongFalsely : Prop := sumBytesRow.holds Try.pinned (OpenSpec.ofChange sumBytesWrong)

/-- 'cellaretlaw1.SumZeros': WHATEVER THE INPUT: true; the input reads as it did. -/
def sumZerosSpec : ChangeSpec := { name := "sumZeros", fn := fun _ => fun
  | [d1, d2] => { results := [.lit (.bool true)], args := [d1, d2] }
  | _ => none }
def sumZerosRow : OpenClaim := { program := "ytefalfheeofhhaa", sum := "0130a1d3f4ae1448210496fc238d4bf979aeaad354c53c572573f651218513be", func := "cellaret/cellaretlaw1.SumZeros", spec := "sumZeros", apart := false }
def SumZerosSaid : Prop := sumZerosRow.holds Try.pinned (OpenSpec.ofChange sumZerosSpec)

/-- ITS FALSE NEIGHBOUR: 'it returns false'. Refute it at one input. -/
def sumZerosWrong : ChangeSpec := { name := "sumZeros", fn := fun _ => fun
  | [d1, d2] => { results := [.lit (.bool false)], args := [d1, d2] }
  | _ => none }
def SumZerosWrongFalsely : Prop := sumZerosRow.holds Try.pinned (OpenSpec.ofChange sumZerosWrong)

/-- 'cellaretlaw1.SumBursts': WHATEVER THE INPUT: true; the input reads as it did. -/
def sumBurstsSpec : ChangeSpec := { name := "sumBursts", fn := fun _ => fun
  | [d1, d2, d3] => { results := [.lit (.bool true)], args := [d1, d2, d3] }
  | _ => none }
def sumBurstsRow : OpenClaim := { program := "ytefalfheeofhhaa", sum := "0130a1d3f4ae1448210496fc238d4bf979aeaad354c53c572573f651218513be", func := "cellaret/cellaretlaw1.SumBursts", spec := "sumBursts", apart := false }
def SumBurstsSaid : Prop := sumBurstsRow.holds Try.pinned (OpenSpec.ofChange sumBurstsSpec)

/-- ITS FALSE NEIGHBOUR: 'it returns false'. Refute it at one input. -/
def sumBurstsWrong : ChangeSpec := { name := "sumBursts", fn := fun _ => fun
  | [d1, d2, d3] => { results := [.lit (.bool false)], args := [d1, d2, d3] }
  | _ => none }
def SumBurstsWrongFalsely : Prop := sumBurstsRow.holds Try.pinned (OpenSpec.ofChange sumBurstsWrong)

/-- 'cellaretlaw7.BloomKnown': WHATEVER THE INPUT: true; the input reads as it did. -/
def bloomKnownSpec : ChangeSpec := { name := "bloomKnown", fn := fun _ => fun
  | [] => { results := [.lit (.bool true)], args := [] }
  | _ => none }
def bloomKnownRow : OpenClaim := { program := "ytefalfheeofhhaa", sum := "0130a1d3f4ae1448210496fc238d4bf979aeaad354c53c572573f651218513be", func := "cellaret/cellaretlaw7.BloomKnown", spec := "bloomKnown", apart := false }
def BloomKnownSaid : Prop := bloomKnownRow.holds Try.pinned (OpenSpec.ofChange bloomKnownSpec)

/-- ITS FALSE NEIGHBOUR: 'it returns false'. Refute it at one input. -/
def bloomKnownWrong : ChangeSpec := { name := "bloomKnown", fn := fun _ => fun
  | [] => { results := [.lit (.bool false)], args := [] }
  | _ => none }
def BloomKnownWrongFalsely : Prop := bloomKnownRow.holds Try.pinned (OpenSpec.ofChange bloomKnownWrong)

/-- 'cellaretlaw7.BloomSays': WHATEVER THE INPUT: true; the input reads as it did. -/
def bloomSaysSpec : ChangeSpec := { name := "bloomSays", fn := fun _ => fun
  | [d1, d2, d3, d4] => { results := [.lit (.bool true)], args := [d1, d2, d3, d4] }
  | _ => none }
def bloomSaysRow : OpenClaim := { program := "ytefalfheeofhhaa", sum := "0130a1d3f4ae1448210496fc238d4bf979aeaad354c53c572573f651218513be", func := "cellaret/cellaretlaw7.BloomSays", spec := "bloomSays", apart := false }
def BloomSaysSaid : Prop := bloomSaysRow.holds Try.pinned (OpenSpec.ofChange bloomSaysSpec)

/-- ITS FALSE NEIGHBOUR: 'it returns false'. Refute it at one input. -/
def bloomSaysWrong : ChangeSpec := { name := "bloomSays", fn := fun _ => fun
  | [d1, d2, d3, d4] => { results := [.lit (.bool false)], args := [d1, d2, d3, d4] }
  | _ => none }
def BloomSaysWrongFalsely : Prop := bloomSaysRow.holds Try.pinned (OpenSpec.ofChange bloomSaysWrong)

/-- 'cellaretlaw7.BloomNever': WHATEVER THE INPUT: true; the input reads as it did. -/
def bloomNeverSpec : ChangeSpec := { name := "bloomNever", fn := fun _ => fun
  | [d1, d2, d3] => { results := [.lit (.bool true)], args := [d1, d2, d3] }
  | _ => none }
def bloomNeverRow : OpenClaim := { program := "ytefalfheeofhhaa", sum := "0130a1d3f4ae1448210496fc238d4bf979aeaad354c53c572573f651218513be", func := "cellaret/cellaretlaw7.BloomNever", spec := "bloomNever", apart := false }
def BloomNeverSaid : Prop := bloomNeverRow.holds Try.pinned (OpenSpec.ofChange bloomNeverSpec)

/-- ITS FALSE NEIGHBOUR: 'it returns false'. Refute it at one input. -/
def bloomNeverWrong : ChangeSpec := { name := "bloomNever", fn := fun _ => fun
  | [d1, d2, d3] => { results := [.lit (.bool false)], args := [d1, d2, d3] }
  | _ => none }
def BloomNeverWrongFalsely : Prop := bloomNeverRow.holds Try.pinned (OpenSpec.ofChange bloomNeverWrong)

/-- 'cellaretlaw7.BloomOrder': WHATEVER THE INPUT: true; the input reads as it did. -/
def bloomOrderSpec : ChangeSpec := { name := "bloomOrder", fn := fun _ => fun
  | [d1, d2, d3] => { results := [.lit (.bool true)], args := [d1, d2, d3] }
  | _ => none }
def bloomOrderRow : OpenClaim := { program := "ytefalfheeofhhaa", sum := "0130a1d3f4ae1448210496fc238d4bf979aeaad354c53c572573f651218513be", func := "cellaret/cellaretlaw7.BloomOrder", spec := "bloomOrder", apart := false }
def BloomOrderSaid : Prop := bloomOrderRow.holds Try.pinned (OpenSpec.ofChange bloomOrderSpec)

/-- ITS FALSE NEIGHBOUR: 'it returns false'. Refute it at one input. -/
def bloomOrderWrong : ChangeSpec := { name := "bloomOrder", fn := fun _ => fun
  | [d1, d2, d3] => { results := [.lit (.bool false)], args := [d1, d2, d3] }
  | _ => none }
def BloomOrderWrongFalsely : Prop := bloomOrderRow.holds Try.pinned (OpenSpec.ofChange bloomOrderWrong)

/-- 'cellaretlaw7.BloomGrows': WHATEVER THE INPUT: true; the input reads as it did. -/
def bloomGrowsSpec : ChangeSpec := { name := "bloomGrows", fn := fun _ => fun
  | [d1, d2, d3] => { results := [.lit (.bool true)], args := [d1, d2, d3] }
  | _ => none }
def bloomGrowsRow : OpenClaim := { program := "ytefalfheeofhhaa", sum := "0130a1d3f4ae1448210496fc238d4bf979aeaad354c53c572573f651218513be", func := "cellaret/cellaretlaw7.BloomGrows", spec := "bloomGrows", apart := false }
def BloomGrowsSaid : Prop := bloomGrowsRow.holds Try.pinned (OpenSpec.ofChange bloomGrowsSpec)

/-- ITS FALSE NEIGHBOUR: 'it returns false'. Refute it at one input. -/
def bloomGrowsWrong : ChangeSpec := { name := "bloomGrows", fn := fun _ => fun
  | [d1, d2, d3] => { results := [.lit (.bool false)], args := [d1, d2, d3] }
  | _ => none }
def BloomGrowsWrongFalsely : Prop := bloomGrowsRow.holds Try.pinned (OpenSpec.ofChange bloomGrowsWrong)

/-- 'cellaretlaw4.RecKnown': WHATEVER THE INPUT: true; the input reads as it did. -/
def recKnownSpec : ChangeSpec := { name := "recKnown", fn := fun _ => fun
  | [] => { results := [.lit (.bool true)], args := [] }
  | _ => none }
def recKnownRow : OpenClaim := { program := "ytefalfheeofhhaa", sum := "0130a1d3f4ae1448210496fc238d4bf979aeaad354c53c572573f651218513be", func := "cellaret/cellaretlaw4.RecKnown", spec := "recKnown", apart := false }
def RecKnownSaid : Prop := recKnownRow.holds Try.pinned (OpenSpec.ofChange recKnownSpec)

/-- ITS FALSE NEIGHBOUR: 'it returns false'. Refute it at one input. -/
def recKnownWrong : ChangeSpec := { name := "recKnown", fn := fun _ => fun
  | [] => { results := [.lit (.bool false)], args := [] }
  | _ => none }
def RecKnownWrongFalsely : Prop := recKnownRow.holds Try.pinned (OpenSpec.ofChange recKnownWrong)

/-- 'cellaretlaw4.RecPuts': WHATEVER THE INPUT: true; the input reads as it did. -/
def recPutsSpec : ChangeSpec := { name := "recPuts", fn := fun _ => fun
  | [d1, d2] => { results := [.lit (.bool true)], args := [d1, d2] }
  | _ => none }
def recPutsRow : OpenClaim := { program := "ytefalfheeofhhaa", sum := "0130a1d3f4ae1448210496fc238d4bf979aeaad354c53c572573f651218513be", func := "cellaret/cellaretlaw4.RecPuts", spec := "recPuts", apart := false }
def RecPutsSaid : Prop := recPutsRow.holds Try.pinned (OpenSpec.ofChange recPutsSpec)

/-- ITS FALSE NEIGHBOUR: 'it returns false'. Refute it at one input. -/
def recPutsWrong : ChangeSpec := { name := "recPuts", fn := fun _ => fun
  | [d1, d2] => { results := [.lit (.bool false)], args := [d1, d2] }
  | _ => none }
def RecPutsWrongFalsely : Prop := recPutsRow.holds Try.pinned (OpenSpec.ofChange recPutsWrong)

/-- 'cellaretlaw4.RecTakes': WHATEVER THE INPUT: true; the input reads as it did. -/
def recTakesSpec : ChangeSpec := { name := "recTakes", fn := fun _ => fun
  | [d] => { results := [.lit (.bool true)], args := [d] }
  | _ => none }
def recTakesRow : OpenClaim := { program := "ytefalfheeofhhaa", sum := "0130a1d3f4ae1448210496fc238d4bf979aeaad354c53c572573f651218513be", func := "cellaret/cellaretlaw4.RecTakes", spec := "recTakes", apart := false }
def RecTakesSaid : Prop := recTakesRow.holds Try.pinned (OpenSpec.ofChange recTakesSpec)

/-- ITS FALSE NEIGHBOUR: 'it returns false'. Refute it at one input. -/
def recTakesWrong : ChangeSpec := { name := "recTakes", fn := fun _ => fun
  | [d] => { results := [.lit (.bool false)], args := [d] }
  | _ => none }
def RecTakesWrongFalsely : Prop := recTakesRow.holds Try.pinned (OpenSpec.ofChange recTakesWrong)

/-- 'cellaretlaw4.RecSpoils': WHATEVER THE INPUT: true; the input reads as it did. -/
def recSpoilsSpec : ChangeSpec := { name := "recSpoils", fn := fun _ => fun
  | [d1, d2, d3, d4] => { results := [.lit (.bool true)], args := [d1, d2, d3, d4] }
  | _ => none }
def recSpoilsRow : OpenClaim := { program := "ytefalfheeofhhaa", sum := "0130a1d3f4ae1448210496fc238d4bf979aeaad354c53c572573f651218513be", func := "cellaret/cellaretlaw4.RecSpoils", spec := "recSpoils", apart := false }
def RecSpoilsSaid : Prop := recSpoilsRow.holds Try.pinned (OpenSpec.ofChange recSpoilsSpec)

/-- ITS FALSE NEIGHBOUR: 'it returns false'. Refute it at one input. -/
def recSpoilsWrong : ChangeSpec := { name := "recSpoils", fn := fun _ => fun
  | [d1, d2, d3, d4] => { results := [.lit (.bool false)], args := [d1, d2, d3, d4] }
  | _ => none }
def RecSpoilsWrongFalsely : Prop := recSpoilsRow.holds Try.pinned (OpenSpec.ofChange recSpoilsWrong)

/-- 'cellaretlaw4.RecApart': WHATEVER THE INPUT: true; the input reads as it did. -/
def recApartSpec : ChangeSpec := { name := "recApart", fn := fun _ => fun
  | [d1, d2] => { results := [.lit (.bool true)], args := [d1, d2] }
  | _ => none }
def recApartRow : OpenClaim := { program := "ytefalfheeofhhaa", sum := "0130a1d3f4ae1448210496fc238d4bf979aeaad354c53c572573f651218513be", func := "cellaret/cellaretlaw4.RecApart", spec := "recApart", apart := false }
def RecApartSaid : Prop := recApartRow.holds Try.pinned (OpenSpec.ofChange recApartSpec)

/-- ITS FALSE NEIGHBOUR: 'it returns false'. Refute it at one input. -/
def recApartWrong : ChangeSpec := { name := "recApart", fn := fun _ => fun
  | [d1, d2] => { results := [.lit (.bool false)], args := [d1, d2] }
  | _ => none }
def RecApartWrongFalsely : Prop := recApartRow.holds Try.pinned (OpenSpec.ofChange recApartWrong)

/-- 'cellaretlaw4.RecBounds': WHATEVER THE INPUT: true; the input reads as it did. -/
def recBoundsSpec : ChangeSpec := { name := "recBounds", fn := fun _ => fun
  | [d1, d2, d3] => { results := [.lit (.bool true)], args := [d1, d2, d3] }
  | _ => none }
def recBoundsRow : OpenClaim := { program := "ytefalfheeofhhaa", sum := "0130a1d3f4ae1448210496fc238d4bf979aeaad354c53c572573f651218513be", func := "cellaret/cellaretlaw4.RecBounds", spec := "recBounds", apart := false }
def RecBoundsSaid : Prop := recBoundsRow.holds Try.pinned (OpenSpec.ofChange recBoundsSpec)

/-- ITS FALSE NEIGHBOUR: 'it returns false'. Refute it at one input. -/
def recBoundsWrong : ChangeSpec := { name := "recBounds", fn := fun _ => fun
  | [d1, d2, d3] => { results := [.lit (.bool false)], args := [d1, d2, d3] }
  | _ => none }
def RecBoundsWrongFalsely : Prop := recBoundsRow.holds Try.pinned (OpenSpec.ofChange recBoundsWrong)

/- THE SECOND FORM. 'bulk': how many values and letters a reading holds, each counted each time it is reached (what is shared counts as often as it is met; a slice's spare places count too). A statement '..UptoSaid' is the law's where the arguments, and the package variables that the reading takes, are together of bulk at most 1048576: NARROWER than '..Said'. Prove '..Said' where nothing that the law and all that it calls make is longer than what came in: it says more and counts as full. Else prove '..UptoSaid'. A law counts once. -/
mutual
def uptoBulk {H : Type} : DataW H → Nat
  | .lit (.string bytes) => bytes.length + 1
  | .lit _ => 1
  | .nil => 1
  | .ptr d => uptoBulk d + 1
  | .slice elems spare => uptoBulkAll elems + uptoBulkAll spare + 1
  | .agg parts => uptoBulkAll parts + 1
  | .iface _ d => uptoBulk d + 1
  | .map entries => uptoBulkEntries entries + 1
  | .held _ => 1
def uptoBulkAll {H : Type} : List (DataW H) → Nat
  | [] => 0
  | d :: r => uptoBulk d + uptoBulkAll r
def uptoBulkEntries {H : Type} : List (Lit × DataW H) → Nat
  | [] => 0
  | x :: r => uptoBulkEntry x + uptoBulkEntries r
def uptoBulkEntry {H : Type} : Lit × DataW H → Nat
  | (.string bytes, d) => bytes.length + uptoBulk d + 1
  | (_, d) => uptoBulk d + 1
 end
def uptoSmall : (H : Type) → List (DataW H) → Bool := fun _ ds => decide (uptoBulkAll ds ≤ 1048576)
def OpenSpec.upto (s : _root_.Go.ChangeSpec) : _root_.Go.OpenSpec := { _root_.Go.OpenSpec.ofChange s with cond := some uptoSmall }

/-- 'cellaretlaw1.SumKnown', WHERE WHAT IT READS IS OF BULK AT MOST 1048576: true; the input reads as it did. -/
def sumKnownUptoRow : OpenClaim := { program := "ytefalfheeofhhaa", sum := "0130a1d3f4ae1448210496fc238d4bf979aeaad354c53c572573f651218513be", func := "cellaret/cellaretlaw1.SumKnown", spec := "sumKnown", apart := false, narrowed := true }
def SumKnownUptoSaid : Prop := sumKnownUptoRow.holds Try.pinned (OpenSpec.upto sumKnownSpec)

/-- 'cellaretlaw1.SumSays', WHERE WHAT IT READS IS OF BULK AT MOST 1048576: true; the input reads as it did. -/
def sumSaysUptoRow : OpenClaim := { program := "ytefalfheeofhhaa", sum := "0130a1d3f4ae1448210496fc238d4bf979aeaad354c53c572573f651218513be", func := "cellaret/cellaretlaw1.SumSays", spec := "sumSays", apart := false, narrowed := true }
def SumSaysUptoSaid : Prop := sumSaysUptoRow.holds Try.pinned (OpenSpec.upto sumSaysSpec)

/-- 'cellaretlaw1.SumOn', WHERE WHAT IT READS IS OF BULK AT MOST 1048576: true; the input reads as it did. -/
def sumOnUptoRow : OpenClaim := { program := "ytefalfheeofhhaa", sum := "0130a1d3f4ae1448210496fc238d4bf979aeaad354c53c572573f651218513be", func := "cellaret/cellaretlaw1.SumOn", spec := "sumOn", apart := false, narrowed := true }
def SumOnUptoSaid : Prop := sumOnUptoRow.holds Try.pinned (OpenSpec.upto sumOnSpec)

/-- 'cellaretlaw1.SumLinear', WHERE WHAT IT READS IS OF BULK AT MOST 1048576: true; the input reads as it did. -/
def sumLinearUptoRow : OpenClaim := { program := "ytefalfheeofhhaa", sum := "0130a1d3f4ae1448210496fc238d4bf979aeaad354c53c572573f651218513be", func := "cellaret/cellaretlaw1.SumLinear", spec := "sumLinear", apart := false, narrowed := true }
def SumLinearUptoSaid : Prop := sumLinearUptoRow.holds Try.pinned (OpenSpec.upto sumLinearSpec)

/-- 'cellaretlaw1.SumBytes', WHERE WHAT IT READS IS OF BULK AT MOST 1048576: true; the input reads as it did. -/
def sumBytesUptoRow : OpenClaim := { program := "ytefalfheeofhhaa", sum := "0130a1d3f4ae1448210496fc238d4bf979aeaad354c53c572573f651218513be", func := "cellaret/cellaretlaw1.SumBytes", spec := "sumBytes", apart := false, narrowed := true }
def SumBytesUptoSaid : Prop := sumBytesUptoRow.holds Try.pinned (OpenSpec.upto sumBytesSpec)

/-- 'cellaretlaw1.SumZeros', WHERE WHAT IT READS IS OF BULK AT MOST 1048576: true; the input reads as it did. -/
def sumZerosUptoRow : OpenClaim := { program := "ytefalfheeofhhaa", sum := "0130a1d3f4ae1448210496fc238d4bf979aeaad354c53c572573f651218513be", func := "cellaret/cellaretlaw1.SumZeros", spec := "sumZeros", apart := false, narrowed := true }
def SumZerosUptoSaid : Prop := sumZerosUptoRow.holds Try.pinned (OpenSpec.upto sumZerosSpec)

/-- 'cellaretlaw1.SumBursts', WHERE WHAT IT READS IS OF BULK AT MOST 1048576: true; the input reads as it did. -/
def sumBurstsUptoRow : OpenClaim := { program := "ytefalfheeofhhaa", sum := "0130a1d3f4ae1448210496fc238d4bf979aeaad354c53c572573f651218513be", func := "cellaret/cellaretlaw1.SumBursts", spec := "sumBursts", apart := false, narrowed := true }
def SumBurstsUptoSaid : Prop := sumBurstsUptoRow.holds Try.pinned (OpenSpec.upto sumBurstsSpec)

/-- 'cellaretlaw7.BloomKnown', WHERE WHAT IT READS IS OF BULK AT MOST 1048576: true; the input reads as it did. -/
def bloomKnownUptoRow : OpenClaim := { program := "ytefalfheeofhhaa", sum := "0130a1d3f4ae1448210496fc238d4bf979aeaad354c53c572573f651218513be", func := "cellaret/cellaretlaw7.BloomKnown", spec := "bloomKnown", apart := false, narrowed := true }
def BloomKnownUptoSaid : Prop := bloomKnownUptoRow.holds Try.pinned (OpenSpec.upto bloomKnownSpec)

/-- 'cellaretlaw7.BloomSays', WHERE WHAT IT READS IS OF BULK AT MOST 1048576: true; the input reads as it did. -/
def bloomSaysUptoRow : OpenClaim := { program := "ytefalfheeofhhaa", sum := "0130a1d3f4ae1448210496fc238d4bf979aeaad354c53c572573f651218513be", func := "cellaret/cellaretlaw7.BloomSays", spec := "bloomSays", apart := false, narrowed := true }
def BloomSaysUptoSaid : Prop := bloomSaysUptoRow.holds Try.pinned (OpenSpec.upto bloomSaysSpec)

/-- 'cellaretlaw7.BloomNever', WHERE WHAT IT READS IS OF BULK AT MOST 1048576: true; the input reads as it did. -/
def bloomNeverUptoRow : OpenClaim := { program := "ytefalfheeofhhaa", sum := "0130a1d3f4ae1448210496fc238d4bf979aeaad354c53c572573f651218513be", func := "cellaret/cellaretlaw7.BloomNever", spec := "bloomNever", apart := false, narrowed := true }
def BloomNeverUptoSaid : Prop := bloomNeverUptoRow.holds Try.pinned (OpenSpec.upto bloomNeverSpec)

/-- 'cellaretlaw7.BloomOrder', WHERE WHAT IT READS IS OF BULK AT MOST 1048576: true; the input reads as it did. -/
def bloomOrderUptoRow : OpenClaim := { program := "ytefalfheeofhhaa", sum := "0130a1d3f4ae1448210496fc238d4bf979aeaad354c53c572573f651218513be", func := "cellaret/cellaretlaw7.BloomOrder", spec := "bloomOrder", apart := false, narrowed := true }
def BloomOrderUptoSaid : Prop := bloomOrderUptoRow.holds Try.pinned (OpenSpec.upto bloomOrderSpec)

/-- 'cellaretlaw7.BloomGrows', WHERE WHAT IT READS IS OF BULK AT MOST 1048576: true; the input reads as it did. -/
def bloomGrowsUptoRow : OpenClaim := { program := "ytefalfheeofhhaa", sum := "0130a1d3f4ae1448210496fc238d4bf979aeaad354c53c572573f651218513be", func := "cellaret/cellaretlaw7.BloomGrows", spec := "bloomGrows", apart := false, narrowed := true }
def BloomGrowsUptoSaid : Prop := bloomGrowsUptoRow.holds Try.pinned (OpenSpec.upto bloomGrowsSpec)

/-- 'cellaretlaw4.RecKnown', WHERE WHAT IT READS IS OF BULK AT MOST 1048576: true; the input reads as it did. -/
def recKnownUptoRow : OpenClaim := { program := "ytefalfheeofhhaa", sum := "0130a1d3f4ae1448210496fc238d4bf979aeaad354c53c572573f651218513be", func := "cellaret/cellaretlaw4.RecKnown", spec := "recKnown", apart := false, narrowed := true }
def RecKnownUptoSaid : Prop := recKnownUptoRow.holds Try.pinned (OpenSpec.upto recKnownSpec)

/-- 'cellaretlaw4.RecPuts', WHERE WHAT IT READS IS OF BULK AT MOST 1048576: true; the input reads as it did. -/
def recPutsUptoRow : OpenClaim := { program := "ytefalfheeofhhaa", sum := "0130a1d3f4ae1448210496fc238d4bf979aeaad354c53c572573f651218513be", func := "cellaret/cellaretlaw4.RecPuts", spec := "recPuts", apart := false, narrowed := true }
def RecPutsUptoSaid : Prop := recPutsUptoRow.holds Try.pinned (OpenSpec.upto recPutsSpec)

/-- 'cellaretlaw4.RecTakes', WHERE WHAT IT READS IS OF BULK AT MOST 1048576: true; the input reads as it did. -/
def recTakesUptoRow : OpenClaim := { program := "ytefalfheeofhhaa", sum := "0130a1d3f4ae1448210496fc238d4bf979aeaad354c53c572573f651218513be", func := "cellaret/cellaretlaw4.RecTakes", spec := "recTakes", apart := false, narrowed := true }
def RecTakesUptoSaid : Prop := recTakesUptoRow.holds Try.pinned (OpenSpec.upto recTakesSpec)

/-- 'cellaretlaw4.RecSpoils', WHERE WHAT IT READS IS OF BULK AT MOST 1048576: true; the input reads as it did. -/
def recSpoilsUptoRow : OpenClaim := { program := "ytefalfheeofhhaa", sum := "0130a1d3f4ae1448210496fc238d4bf979aeaad354c53c572573f651218513be", func := "cellaret/cellaretlaw4.RecSpoils", spec := "recSpoils", apart := false, narrowed := true }
def RecSpoilsUptoSaid : Prop := recSpoilsUptoRow.holds Try.pinned (OpenSpec.upto recSpoilsSpec)

/-- 'cellaretlaw4.RecApart', WHERE WHAT IT READS IS OF BULK AT MOST 1048576: true; the input reads as it did. -/
def recApartUptoRow : OpenClaim := { program := "ytefalfheeofhhaa", sum := "0130a1d3f4ae1448210496fc238d4bf979aeaad354c53c572573f651218513be", func := "cellaret/cellaretlaw4.RecApart", spec := "recApart", apart := false, narrowed := true }
def RecApartUptoSaid : Prop := recApartUptoRow.holds Try.pinned (OpenSpec.upto recApartSpec)

/-- 'cellaretlaw4.RecBounds', WHERE WHAT IT READS IS OF BULK AT MOST 1048576: true; the input reads as it did. -/
def recBoundsUptoRow : OpenClaim := { program := "ytefalfheeofhhaa", sum := "0130a1d3f4ae1448210496fc238d4bf979aeaad354c53c572573f651218513be", func := "cellaret/cellaretlaw4.RecBounds", spec := "recBounds", apart := false, narrowed := true }
def RecBoundsUptoSaid : Prop := recBoundsUptoRow.holds Try.pinned (OpenSpec.upto recBoundsSpec)

end Rows
end Go.Proofs.Ytefalfheeofhhaa
