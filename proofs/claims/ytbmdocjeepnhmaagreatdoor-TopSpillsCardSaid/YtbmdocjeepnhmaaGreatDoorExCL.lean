/- TopSpills: for every input the law returns true: the row. No condition. -/
import Derived.Test.YtbmdocjeepnhmaaGreatDoorExTg
import Derived.Test.YtbmdocjeepnhmaaGreatDoorExCc
import Derived.Test.YtbmdocjeepnhmaaGreatDoorCards
import Derived.Test.YtbmdocjeepnhmaaGreatDoorTie
import Derived.Laws.IdiomArrays
import Derived.WalkKit
import Derived.ProofKit
import Derived.OpenShut
import Derived.ShutString
import Derived.LaidMore
import Derived.Lay
import Derived.SevenTiedAt
import Derived.Lib.LaidTab
import Derived.Stop.LaidErr
import Derived.Stop.Joined
set_option linter.unusedVariables false
set_option linter.unusedSimpArgs false
set_option linter.unusedSectionVars false
namespace Go.Proofs.YtbmdocjeepnhmaaGreatDoor.topSpills
open Go.ChangeShapes Go.WideShapes Go.ChangeAt Go.RowKit Go.Ev
open Go.ChangeMaps (open_string shut_string)
theorem own : ownKnob Tryz.prog.godebug = none := by kernel_rfl
theorem laidOut : laidOutB Tryz.prog = true := by kernel_rfl
theorem cell_lt {w : World} {p : Addr} {v : Value} (h : w.cell? p = some v) : p.block < w.heap.size := by
  rcases Nat.lt_or_ge p.block w.heap.size with h1 | h1
  · exact h1
  · simp [World.cell?, Array.getElem?_eq_none h1] at h
/-- A text, by its bytes' numbers. -/
def numsOf (s : ByteArray) : List Nat := s.data.toList.map UInt8.toNat
theorem bytes_nums (s : ByteArray) : Go.Ev.bytes (numsOf s) = s := by
  apply ByteArray.ext
  show ((s.data.toList.map UInt8.toNat).map UInt8.ofNat).toArray = s.data
  rw [List.map_map]
  have : (UInt8.ofNat ∘ UInt8.toNat) = id := by
    funext x
    simp
  rw [this, List.map_id]
theorem nums_lt (s : ByteArray) : ∀ c ∈ numsOf s, c < 256 := by
  intro c hc
  obtain ⟨x, _, rfl⟩ := List.mem_map.1 hc
  exact x.toNat_lt
/-- The powers of ten, where the row's condition lays them. -/
theorem table {W : World} (hL : laidMetH Tryz.prog Rows.topSpillsRow.laid W) : TabB (Base.all W) := by
  rw [MakeChecks.laidMetH_plain _ _ _ (by kernel_rfl)] at hL
  have htab : Lib.TabIs Tryz.prog W "internal/strconv.uint64pow10" .u64 Lib.pow10Tab := Lib.tabIs_of_head (g := 0) (t := 365) (e := 35) (n := 20) (by kernel_rfl) (by kernel_rfl) (by kernel_rfl) (by kernel_rfl) (by kernel_rfl) (by kernel_rfl) hL.tail.tail
  refine ⟨?_, htab⟩
  have h0 := htab.cell (g := 0) (by kernel_rfl) 0 (by decide)
  exact cell_lt (p := ⟨0, 0, none⟩) h0
theorem spills_told {W : World} (hT : TabB (Base.all W)) (s t : ByteArray) : Calls Tryz.prog 3 #[.string s, .string t] W (fun e W' => e = .returned (.bool true) ∧ Below W.heap.size W W') := by
  have h := spills_tells (W := W) hT (nums_lt s) (nums_lt t)
  rw [bytes_nums, bytes_nums] at h
  refine Calls.mono h fun e W' ⟨h1, h2⟩ => ⟨h1, ?_⟩
  exact ⟨h2.os, h2.tape, h2.output, h2.size, fun k hk => h2.block k hk⟩
set_option maxHeartbeats 1000000 in
set_option maxRecDepth 100000 in
theorem lifted (os : Os) (started : os.Started) (H : Type) (enc : TypeId × Value → H) :
    ReturnsInHanded {} Tryz.checked os 3 .any (fun w args => (Rows.topSpillsSpec.pre enc Tryz.prog Tryz.f3 Rows.topSpillsRow.domain false w args ∧ laidMetH Tryz.prog Rows.topSpillsRow.laid w) ∧ sizedMet enc Tryz.prog Tryz.f3 (OpenSpec.ofChange Rows.topSpillsSpec) false w args)
      (Rows.topSpillsSpec.post enc Tryz.prog Tryz.f3 false true false false) := by
  refine returnsInHanded_of_change_and (C := Tryz.checked) (X := fun w _ => laidMetH Tryz.prog Rows.topSpillsRow.laid w) (fun _ _ _ hh h => h.of_heap hh) own started (by kernel_rfl) Tryz.func3
    (ChangeSpec.witness_shaped (enc := enc) (C := Tryz.checked) (os := os) (X := fun w _ => laidMetH Tryz.prog Rows.topSpillsRow.laid w) false (World.laidAll Tryz.prog os Rows.topSpillsRow.laid) #[.string ByteArray.empty, .string ByteArray.empty] 8 (World.laidAll_os _ _ _)
      (World.shaped_of_ZipB (by kernel_rfl) (by kernel_rfl)) (by kernel_rfl) (by kernel_rfl) (by kernel_rfl)
      (by rw [MakeChecks.laidMetH_plain _ _ _ (by kernel_rfl)]; exact laidMet_laidAll _ (by kernel_rfl) (by kernel_rfl))) ?_
  intro W base args ds gs before hval0 hW hc _ hL _
  have hval : ∀ (j : Nat) t v, Tryz.f3.params[j]? = some t → args[j]? = some v → Value.okWide Tryz.prog W .any base t v := hval0
  have hW' := hW
  obtain ⟨p, q, hA0, hV, rfl, _, _⟩ := hW
  have hA : DataW.TrodAll enc Tryz.prog W 0 (fun _ => true) true Tryz.f3.params.toList args.toList ds p := hA0
  rw [Tryz.params3] at hA hval
  obtain ⟨v0, vs0, d0, ds0, p0, q0, hargs, rfl, rfl, h0, r0⟩ := trodAll_cons hA
  obtain ⟨v1, vs1, d1, ds1, p1, q1, rfl, rfl, rfl, h1, r1⟩ := trodAll_cons r0
  obtain ⟨rfl, rfl, rfl⟩ := trodAll_nil r1
  obtain rfl : args = #[v0, v1] := by cases args; simp_all
  obtain ⟨rfl, rfl⟩ := trodVars_none hV
  obtain ⟨s0, rfl, rfl, rfl, y0⟩ := open_string t9 (hval 0 9 v0 rfl rfl) h0
  obtain ⟨s1, rfl, rfl, rfl, y1⟩ := open_string t9 (hval 1 9 v1 rfl rfl) h1
  clear hA0 hval0
  refine (spills_told (table hL) s0 s1).mono fun e W' ⟨he, bel⟩ => ?_
  subst he
  exact ⟨_, rfl, _, _, _, [], _, [], hW', trodAll_mk1 (shut_bool Tryz.underlying4 _), (trodAll_cons_mk (shut_string t9 y0) (trodAll_cons_mk (shut_string t9 y1) trodAll_mk0)), rfl, bel.frame _, fun h => by cases h⟩
theorem over : Rows.TopSpillsSaid :=
  OpenClaim.holds_of_wide 3 Tryz.f3 rfl rfl rfl rfl rfl rfl rfl ⟨rfl, rfl, rfl, rfl, rfl⟩ rfl rfl rfl rfl rfl (by kernel_rfl) Tryz.func3 closed.all
    (of_decide_eq_true (by kernel_rfl)) (by unfold Func.isWrapper; first | (rw [if_pos (by decide +kernel)]; kernel_rfl) | (rw [if_neg (by decide +kernel)]; exact ⟨rfl, rfl⟩))
    (fun os started H enc _ => lifted os started H enc)
end Go.Proofs.YtbmdocjeepnhmaaGreatDoor.topSpills
namespace Go.Proofs.YtbmdocjeepnhmaaGreatDoor.topSpills
open Go.ChangeShapes Go.WideShapes Go.ChangeAt Go.RowKit Go.Ev
theorem card : Rows.TopSpillsCardSaid :=
  Claim7.holds_tied_plain_at .later [] [.data, .data, .data, .data, .sentinel, .sentinel, .pinned] true (true, "d359250e031eb3528f4e9434ca534c99e802d2f2a4ac9c21a1e2b11e7e65ebe4") true over (fun _ h => by cases h) (by kernel_rfl) (fun _ h => by cases h) topSpills_row_tie rfl ⟨rfl, rfl⟩ (by kernel_rfl) rfl
    (fun f fn hf hfn => by
      obtain rfl : f = 3 := Option.some.inj ((show Tryz.prog.funcNamed "cellaret/cellarettop.TopSpills" = some 3 by kernel_rfl).symm.trans hf) |>.symm
      obtain rfl : fn = Tryz.f3 := (Option.some.inj (Tryz.func3.symm.trans hfn)).symm
      exact ⟨by kernel_rfl, fun j t ht => by
        rw [Tryz.params3] at ht
        have hm : t ∈ [9, 9] := by simpa using Array.mem_of_getElem? ht
        have hall : ([9, 9].all fun u => !Tryz.prog.wantsStandIn u) = true := by kernel_rfl
        exact (show Tryz.prog.wantsStandIn t = false by simpa using List.all_eq_true.1 hall t hm)⟩)
    (by kernel_rfl)
end Go.Proofs.YtbmdocjeepnhmaaGreatDoor.topSpills
namespace Go.Proofs.YtbmdocjeepnhmaaGreatDoor
/-- The card, under a short name, for the claim. -/
theorem topSpills_holds : Rows.TopSpillsCardSaid := topSpills.card
#print axioms topSpills_holds
end Go.Proofs.YtbmdocjeepnhmaaGreatDoor
