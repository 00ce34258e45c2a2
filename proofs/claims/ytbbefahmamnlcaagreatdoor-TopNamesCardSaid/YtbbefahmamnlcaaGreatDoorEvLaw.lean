/- TopNames: for every input (there is none) the law returns true: the row. No condition. -/
import Derived.Test.YtbbefahmamnlcaaGreatDoorEvEnd
import Derived.Test.YtbbefahmamnlcaaGreatDoorEvKd
import Derived.Test.YtbbefahmamnlcaaGreatDoorCards
import Derived.Test.YtbbefahmamnlcaaGreatDoorTie
import Derived.WalkKit
import Derived.ProofKit
import Derived.OpenShut
import Derived.LaidMore
import Derived.Lay
import Derived.SevenTiedAt
import Derived.Stop.Joined
set_option linter.unusedVariables false
set_option linter.unusedSimpArgs false
set_option linter.unusedSectionVars false
namespace Go.Proofs.YtbbefahmamnlcaaGreatDoor.topNames
open Go.ChangeShapes Go.WideShapes Go.ChangeAt Go.RowKit Go.Ev
theorem own : ownKnob Tryz.prog.godebug = none := by kernel_rfl
theorem start_rep (W : World) : Rep W [] ⟨.lf none, 0⟩ W where
 below := Below.refl _ _
 len := rfl
 bound := Nat.zero_le _
 obj := fun k o hk _ => absurd hk (Nat.not_lt_zero k)
 free := fun k _ _ => Tr.get_lf D k
 sep := fun k k' o o' b c c' hk _ _ _ _ _ => absurd hk (Nat.not_lt_zero k)
 old := fun k b c hk => by simp at hk
theorem walk (W : World) : Calls Tryz.prog 3 #[] W fun e W' => e = .returned (.bool true) ∧ Below W.heap.size W W' := by
 obtain ⟨⟨y, h'⟩, h1, h2⟩ := Option.map_eq_some_iff.1 run3
 simp only at h2
 subst h2
 rw [callG_eq Tryz.prog exT _ _ (fun c s => evG_eq Tryz.prog exT 3000 c s)] at h1
 rcases callA_ok exT_ok no_count (evCode_ok follows exT_ok no_count 3000).1 3 [] ⟨.lf none, 0⟩ _ h' h1 [] W [] trivial (start_rep W) with ⟨_, hc⟩ | ⟨v, hc, _⟩
 · refine hc.mono ?_
   rintro e w' ⟨v, rfl, E', _, hr, hv⟩
   have hv : v = .bool true := hv
   subst hv
   exact ⟨rfl, hr.below⟩
 · simp only [callFunc, Sem.run_bind, run_program, Result.andThen_ok, Tryz.func3] at hc
   cases hc
set_option maxRecDepth 100000 in
theorem lifted (os : Os) (started : os.Started) (H : Type) (enc : TypeId × Value → H) :
    ReturnsInHanded {} Tryz.checked os 3 .any (fun w args => (Rows.topNamesSpec.pre enc Tryz.prog Tryz.f3 Rows.topNamesRow.domain false w args ∧ laidMetH Tryz.prog Rows.topNamesRow.laid w) ∧ sizedMet enc Tryz.prog Tryz.f3 (OpenSpec.ofChange Rows.topNamesSpec) false w args)
      (Rows.topNamesSpec.post enc Tryz.prog Tryz.f3 false true false false) := by
  refine returnsInHanded_of_change_and (C := Tryz.checked) (X := fun w _ => laidMetH Tryz.prog Rows.topNamesRow.laid w) (fun _ _ _ hh h => h.of_heap hh) own started (by kernel_rfl) Tryz.func3
    (ChangeSpec.witness_shaped (enc := enc) (C := Tryz.checked) (os := os) (X := fun w _ => laidMetH Tryz.prog Rows.topNamesRow.laid w) false (World.laidAll Tryz.prog os Rows.topNamesRow.laid) #[] 8 (World.laidAll_os _ _ _)
      (World.shaped_of_ZipB (by kernel_rfl) (by kernel_rfl)) (by kernel_rfl) (by kernel_rfl) (by kernel_rfl)
      (by rw [MakeChecks.laidMetH_plain _ _ _ (by kernel_rfl)]; exact laidMet_laidAll _ (by kernel_rfl) (by kernel_rfl))) ?_
  intro W base args ds gs before hval0 hW hc _ hL _
  have hval : ∀ (j : Nat) t v, Tryz.f3.params[j]? = some t → args[j]? = some v → Value.okWide Tryz.prog W .any base t v := hval0
  have hW' := hW
  obtain ⟨p, q, hA0, hV, rfl, _, _⟩ := hW
  have hA : DataW.TrodAll enc Tryz.prog W 0 (fun _ => true) true Tryz.f3.params.toList args.toList ds p := hA0
  rw [Tryz.params3] at hA hval
  obtain ⟨rfl, rfl, rfl⟩ := trodAll_none hA
  obtain ⟨rfl, rfl⟩ := trodVars_none hV
  refine (walk W).mono fun e W' ⟨he, bel⟩ => ?_
  subst he
  exact ⟨_, rfl, _, _, _, [], _, [], hW', trodAll_mk1 (shut_bool Tryz.underlying4 _), trodAll_mk0, rfl, bel.frame _, fun h => by cases h⟩
theorem over : Rows.TopNamesSaid :=
  OpenClaim.holds_of_wide 3 Tryz.f3 rfl rfl rfl rfl rfl rfl rfl ⟨rfl, rfl, rfl, rfl, rfl⟩ rfl rfl rfl rfl rfl (by kernel_rfl) Tryz.func3 closed.all
    (of_decide_eq_true (by kernel_rfl)) (by unfold Func.isWrapper; first | (rw [if_pos (by decide +kernel)]; kernel_rfl) | (rw [if_neg (by decide +kernel)]; exact ⟨rfl, rfl⟩))
    (fun os started H enc _ => lifted os started H enc)
end Go.Proofs.YtbbefahmamnlcaaGreatDoor.topNames
