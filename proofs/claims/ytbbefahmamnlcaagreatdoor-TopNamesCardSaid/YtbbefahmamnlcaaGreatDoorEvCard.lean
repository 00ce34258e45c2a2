/- TopNames: for every input (there is none) the law returns true; the tied card. No condition. -/
import Derived.Test.YtbbefahmamnlcaaGreatDoorEvLaw
set_option linter.unusedVariables false
set_option linter.unusedSimpArgs false
set_option linter.unusedSectionVars false
namespace Go.Proofs.YtbbefahmamnlcaaGreatDoor.topNames
open Go.ChangeShapes Go.WideShapes Go.ChangeAt Go.RowKit Go.Ev
theorem card : Rows.TopNamesCardSaid :=
  Claim7.holds_tied_plain_at .later [] [.data, .data, .data, .data, .sentinel, .sentinel, .pinned] true (true, "0a1de62486c2adb7631708faa72936b5e3e75df59554d4d5ccca2c3a50b893fb") true over (fun _ h => by cases h) (by kernel_rfl) (fun _ h => by cases h) topNames_row_tie rfl ⟨rfl, rfl⟩ (by kernel_rfl) rfl
    (fun f fn hf hfn => by
      obtain rfl : f = 3 := Option.some.inj ((show Tryz.prog.funcNamed "cellaret/cellarettop.TopNames" = some 3 by kernel_rfl).symm.trans hf) |>.symm
      obtain rfl : fn = Tryz.f3 := (Option.some.inj (Tryz.func3.symm.trans hfn)).symm
      exact ⟨by kernel_rfl, fun j t ht => by
        rw [Tryz.params3] at ht
        simp at ht⟩)
    (by kernel_rfl)
end Go.Proofs.YtbbefahmamnlcaaGreatDoor.topNames
namespace Go.Proofs.YtbbefahmamnlcaaGreatDoor
/-- The card, under a short name, for the claim. -/
theorem topNames_holds : Rows.TopNamesCardSaid := topNames.card
#print axioms topNames_holds
end Go.Proofs.YtbbefahmamnlcaaGreatDoor
