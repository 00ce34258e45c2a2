/- TopCount: for every input the law returns true; the tied card. No condition. -/
import Derived.Test.YtbmdocjeepnhmaaGreatDoorEvCL
set_option linter.unusedVariables false
set_option linter.unusedSimpArgs false
set_option linter.unusedSectionVars false
namespace Go.Proofs.YtbmdocjeepnhmaaGreatDoor.topCount
open Go.ChangeShapes Go.WideShapes Go.ChangeAt Go.RowKit Go.Ev
theorem card : Rows.TopCountCardSaid :=
  Claim7.holds_tied_plain_at .later [] [.data, .data, .data, .data, .sentinel, .sentinel, .pinned] true (true, "d359250e031eb3528f4e9434ca534c99e802d2f2a4ac9c21a1e2b11e7e65ebe4") true over (fun _ h => by cases h) (by kernel_rfl) (fun _ h => by cases h) topCount_row_tie rfl ⟨rfl, rfl⟩ (by kernel_rfl) rfl
    (fun f fn hf hfn => by
      obtain rfl : f = 4 := Option.some.inj ((show Tryz.prog.funcNamed "cellaret/cellarettop.TopCount" = some 4 by kernel_rfl).symm.trans hf) |>.symm
      obtain rfl : fn = Tryz.f4 := (Option.some.inj (Tryz.func4.symm.trans hfn)).symm
      exact ⟨by kernel_rfl, fun j t ht => by
        rw [Tryz.params4] at ht
        have hm : t ∈ [39, 40] := by simpa using Array.mem_of_getElem? ht
        have hall : ([39, 40].all fun u => !Tryz.prog.wantsStandIn u) = true := by kernel_rfl
        exact (show Tryz.prog.wantsStandIn t = false by simpa using List.all_eq_true.1 hall t hm)⟩)
    (by kernel_rfl)
end Go.Proofs.YtbmdocjeepnhmaaGreatDoor.topCount
namespace Go.Proofs.YtbmdocjeepnhmaaGreatDoor
/-- The card, under a short name, for the claim. -/
theorem topCount_holds : Rows.TopCountCardSaid := topCount.card
#print axioms topCount_holds
end Go.Proofs.YtbmdocjeepnhmaaGreatDoor
