/- Laid by a program of this session: the row of BloomOrder: whatever the input, it answers true; no condition. -/
import Derived.Test.YtefalfheeofhhaaRows
import Derived.Test.YtefalfheeofhhaaQWB
import Derived.Test.YtefalfheeofhhaaXStrs
import Derived.Test.YtefalfheeofhhaaPureBloomOrder
import Derived.WalkKit
import Derived.ProofKit
import Derived.OpenShut
import Derived.ShutString
import Derived.ChangeOld
import Derived.Below
import Derived.SizedLaws
import Derived.Test.YtefalfheeofhhaaWSized
namespace Go.Proofs.Ytefalfheeofhhaa.bloomOrder
open Go.ChangeShapes Go.WideShapes Go.ChangeAt Go.RowKit
open Go.ChangeMaps (open_string shut_string)
open Go.Proofs.YtefalfheeofhhaaW.PrintWords
set_option linter.unusedVariables false
theorem own : ownKnob Try.prog.godebug = none := by kernel_rfl
theorem laidOut : laidOutB Try.prog = true := by kernel_rfl
theorem walk (a0 a1 : Int) (A2 : Option Addr) (c2 : Nat) (l2 : List ByteArray) (w : World) (hr2 : Kd.C Kd.string w A2 l2.length l2) (hc2 : l2.length ≤ c2) (hs : ∀ s ∈ l2, s.size ≤ 140737488351232) :
    Calls Try.prog 13 #[.int .i64 a0, .int .i64 a1, .slice A2 l2.length c2] w fun e w' => e = .returned (.bool true) ∧ Below w.heap.size w w' := by
  by_cases hv : 8 ≤ a0 ∧ a0 ≤ 65536 ∧ 1 ≤ a1 ∧ a1 ≤ 8
  · exact QW.cellaretlaw7_BloomOrder.calls _ a0 a1 A2 c2 l2 true w hr2 hc2 (QW.order_ok a0 a1 l2 (fun s h => by have := hs s h; unfold QW.top; omega) hv)
  · exact QW.cellaretlaw7_BloomOrder.bad 1 a0 a1 A2 c2 l2 w (QW.awake_ok 0) hv
set_option maxRecDepth 100000 in
theorem lifted (os : Os) (started : os.Started) (H : Type) (enc : TypeId × Value → H) :
    ReturnsInHanded {} Try.checked os 13 .any (Rows.bloomOrderSpec.pre6 enc Try.prog Try.f13 Rows.bloomOrderRow.domain false) (Rows.bloomOrderSpec.post enc Try.prog Try.f13 false true false false) := by
  refine returnsInHanded_of_change_sized (C := Try.checked) own started (by kernel_rfl) Try.func13
    (ChangeSpec.witness6 (enc := enc) (C := Try.checked) false ⟨#[], #[.int .i64 0, .int .i64 0, .slice none 0 0], []⟩ 8 (by kernel_rfl) (by kernel_rfl) (by kernel_rfl) (by kernel_rfl)) ?_
  intro W base args ds gs before hval0 hW hcnd hsz0 _
  have hsz : (DataW.weightsEach Try.prog (Try.f13.params.toList ++ Rows.bloomOrderSpec.plain.varTypes Try.prog) (ds ++ gs)).all (· ≤ reachBytes) = true := hsz0
  have hval : ∀ (j : Nat) t v, Try.f13.params[j]? = some t → args[j]? = some v → Value.okWide Try.prog W .any base t v := hval0
  have hW' := hW
  obtain ⟨p, q, hA0, hV, rfl, hfz, hnd⟩ := hW
  have hA : DataW.TrodAll enc Try.prog W 0 (fun _ => true) true Try.f13.params.toList args.toList ds p := hA0
  rw [Try.params13] at hA hval hsz
  obtain ⟨v0, vs0, d0, ds0, p0, q0, hargs, rfl, rfl, h0, r0⟩ := trodAll_cons hA
  obtain ⟨v1, vs1, d1, ds1, p1, q1, rfl, rfl, rfl, h1, r1⟩ := trodAll_cons r0
  obtain ⟨v2, vs2, d2, ds2, p2, q2, rfl, rfl, rfl, h2, r2⟩ := trodAll_cons r1
  obtain ⟨rfl, rfl, rfl⟩ := trodAll_nil r2
  obtain rfl : args = #[v0, v1, v2] := by cases args; simp_all
  obtain ⟨rfl, rfl⟩ := trodVars_none hV
  obtain ⟨a0, rfl, rfl, rfl, w0⟩ := open_int Try.underlying3 (hval 0 3 v0 rfl rfl) h0
  obtain ⟨a1, rfl, rfl, rfl, w1⟩ := open_int Try.underlying3 (hval 1 3 v1 rfl rfl) h1
  obtain ⟨a2, len2, cap2, rfl⟩ := okWide_slice Try.underlying41 (hval 2 41 v2 rfl rfl)
  have k2 := h2
  have lt2 : ∀ x ∈ p2, x.block < W.heap.size := by obtain ⟨m, hm⟩ := k2; exact DataW.trod_lt m _ _ _ hm
  obtain ⟨ss, hl2, hc2, _, hr2, hs2⟩ := Go.Proofs.Ytefalfheeofhhaa.XStrs.open_strs hsz (j := 2) (t := 41) rfl rfl Try.underlying41 Try.underlying9 (by kernel_rfl) h2
  subst hl2
  clear hA0 hval0 hsz0 hsz
  refine (walk a0 a1 a2 cap2 ss W hr2 hc2 hs2).mono fun e W' ⟨he, bel⟩ => ?_
  subst he
  exact ⟨_, rfl, _, _, _, [], _, [], hW', trodAll_mk1 (shut_bool Try.underlying4 _), (trodAll_cons_mk (shut_int Try.underlying3 w0) (trodAll_cons_mk (shut_int Try.underlying3 w1) (trodAll_cons_mk (Below.trod laidOut (by kernel_rfl) (of_decide_eq_true (by kernel_rfl)) k2 bel lt2) trodAll_mk0))), rfl, bel.frame _, fun h => by cases h⟩
theorem over : Rows.bloomOrderRow.holds Try.pinned (OpenSpec.ofChange Rows.bloomOrderSpec) :=
  OpenClaim.holds_of_wide 13 Try.f13 rfl rfl rfl rfl rfl rfl rfl ⟨rfl, rfl, rfl, rfl, rfl⟩ rfl rfl rfl rfl rfl (by kernel_rfl) Try.func13 (by kernel_rfl)
    (of_decide_eq_true (by kernel_rfl)) (by unfold Func.isWrapper; first | (rw [if_pos (by decide +kernel)]; kernel_rfl) | (rw [if_neg (by decide +kernel)]; exact ⟨rfl, rfl⟩))
    (fun os started H enc _ => lifted os started H enc)
theorem proved : Rows.BloomOrderSaid := over
#print axioms proved
end Go.Proofs.Ytefalfheeofhhaa.bloomOrder
namespace Go.Proofs.Ytefalfheeofhhaa
/-- The row, under a short name, for the claim. -/
theorem bloomOrder_holds : Rows.BloomOrderSaid := bloomOrder.proved
end Go.Proofs.Ytefalfheeofhhaa
