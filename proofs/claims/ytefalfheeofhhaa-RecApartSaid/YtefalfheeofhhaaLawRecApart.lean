/- Laid by a program of this session: what the Go functions answer, as Lean functions, and the walks that prove it; no condition beyond what each statement names. -/
import Derived.Test.YtefalfheeofhhaaRows
import Derived.Test.YtefalfheeofhhaaQRx29
import Derived.Test.YtefalfheeofhhaaXAgg
import Derived.Test.YtefalfheeofhhaaPureRecApart
import Derived.WalkKit
import Derived.ProofKit
import Derived.OpenShut
import Derived.ShutString
import Derived.ChangeOld
import Derived.Below
import Derived.SizedLaws
import Derived.Test.YtefalfheeofhhaaWSized
namespace Go.Proofs.Ytefalfheeofhhaa.recApart
open Go.ChangeShapes Go.WideShapes Go.ChangeAt Go.RowKit
open Go.ChangeMaps (open_string shut_string)
set_option linter.unusedVariables false
theorem own : ownKnob Try.prog.godebug = none := by kernel_rfl
theorem laidOut : laidOutB Try.prog = true := by kernel_rfl
def IsRow (k : IntKind) (w : World) (a : Option Addr) (len cap : Nat) (zs : List Int) : Prop :=
  (a = none ∧ len = 0 ∧ cap = 0 ∧ zs = []) ∨
  ∃ x, a = some x ∧ len ≤ cap ∧ cap ≤ maxLen ∧ zs.length = cap ∧ (∀ i, i < zs.length → w.cell? (x.add i) = some (.int k (zs.getD i 0))) ∧ ∀ n ∈ zs, (Lit.int k n).wf = true
set_option maxRecDepth 100000 in
theorem lifted (os : Os) (started : os.Started) (H : Type) (enc : TypeId × Value → H) :
    ReturnsInHanded {} Try.checked os 19 .any (Rows.recApartSpec.pre6 enc Try.prog Try.f19 Rows.recApartRow.domain false) (Rows.recApartSpec.post enc Try.prog Try.f19 false true false false) := by
  refine returnsInHanded_of_change_sized (C := Try.checked) own started (by kernel_rfl) Try.func19
    (ChangeSpec.witness6 (enc := enc) (C := Try.checked) false ⟨#[], #[.agg #[.string ByteArray.empty, .string ByteArray.empty, .int .u32 0, .int .i64 0, .int .u64 0], .agg #[.string ByteArray.empty, .string ByteArray.empty, .int .u32 0, .int .i64 0, .int .u64 0]], []⟩ 8 (by kernel_rfl) (by kernel_rfl) (by kernel_rfl) (by kernel_rfl)) ?_
  intro W base args ds gs before hval0 hW hcnd hsz0 _
  have hsz : (DataW.weightsEach Try.prog (Try.f19.params.toList ++ Rows.recApartSpec.plain.varTypes Try.prog) (ds ++ gs)).all (· ≤ reachBytes) = true := hsz0
  have hval : ∀ (j : Nat) t v, Try.f19.params[j]? = some t → args[j]? = some v → Value.okWide Try.prog W .any base t v := hval0
  have hW' := hW
  obtain ⟨p, q, hA0, hV, rfl, hfz, hnd⟩ := hW
  have hA : DataW.TrodAll enc Try.prog W 0 (fun _ => true) true Try.f19.params.toList args.toList ds p := hA0
  rw [Try.params19] at hA hval hsz
  obtain ⟨v0, vs0, d0, ds0, p0, q0, hargs, rfl, rfl, h0, r0⟩ := trodAll_cons hA
  obtain ⟨v1, vs1, d1, ds1, p1, q1, rfl, rfl, rfl, h1, r1⟩ := trodAll_cons r0
  obtain ⟨rfl, rfl, rfl⟩ := trodAll_nil r1
  obtain rfl : args = #[v0, v1] := by cases args; simp_all
  obtain ⟨rfl, rfl⟩ := trodVars_none hV
  have k0 := h0
  have lt0 : ∀ x ∈ p0, x.block < W.heap.size := by obtain ⟨m, hm⟩ := k0; exact DataW.trod_lt m _ _ _ hm
  have k1 := h1
  have lt1 : ∀ x ∈ p1, x.block < W.heap.size := by obtain ⟨m, hm⟩ := k1; exact DataW.trod_lt m _ _ _ hm
  obtain ⟨c00, c01, c02, c03, c04, y00, y01, y02, y03, y04, m0, rfl, rfl, rfl, g00, g01, g02, g03, g04⟩ := Agg5.open_agg5 Try.underlying54 (by kernel_rfl) (by kernel_rfl) (hval 0 54 v0 rfl rfl) h0
  obtain ⟨a00, e00, _, w00⟩ := DataW.trod_string (by kernel_rfl) g00
  simp only [List.cons.injEq, and_true] at e00
  subst e00
  obtain ⟨a01, e01, _, w01⟩ := DataW.trod_string (by kernel_rfl) g01
  simp only [List.cons.injEq, and_true] at e01
  subst e01
  obtain ⟨a02, e02, _, w02⟩ := DataW.trod_int (k := .u32) (by kernel_rfl) g02
  simp only [List.cons.injEq, and_true] at e02
  subst e02
  obtain ⟨a03, e03, _, w03⟩ := DataW.trod_int (k := .i64) (by kernel_rfl) g03
  simp only [List.cons.injEq, and_true] at e03
  subst e03
  obtain ⟨a04, e04, _, w04⟩ := DataW.trod_int (k := .u64) (by kernel_rfl) g04
  simp only [List.cons.injEq, and_true] at e04
  subst e04
  obtain ⟨c10, c11, c12, c13, c14, y10, y11, y12, y13, y14, m1, rfl, rfl, rfl, g10, g11, g12, g13, g14⟩ := Agg5.open_agg5 Try.underlying54 (by kernel_rfl) (by kernel_rfl) (hval 1 54 v1 rfl rfl) h1
  obtain ⟨a10, e10, _, w10⟩ := DataW.trod_string (by kernel_rfl) g10
  simp only [List.cons.injEq, and_true] at e10
  subst e10
  obtain ⟨a11, e11, _, w11⟩ := DataW.trod_string (by kernel_rfl) g11
  simp only [List.cons.injEq, and_true] at e11
  subst e11
  obtain ⟨a12, e12, _, w12⟩ := DataW.trod_int (k := .u32) (by kernel_rfl) g12
  simp only [List.cons.injEq, and_true] at e12
  subst e12
  obtain ⟨a13, e13, _, w13⟩ := DataW.trod_int (k := .i64) (by kernel_rfl) g13
  simp only [List.cons.injEq, and_true] at e13
  subst e13
  obtain ⟨a14, e14, _, w14⟩ := DataW.trod_int (k := .u64) (by kernel_rfl) g14
  simp only [List.cons.injEq, and_true] at e14
  subst e14
  clear hA0 hval0 hsz0 hsz
  obtain ⟨k, h⟩ := Pure.RecApart a00 a01 a02 a03 a04 a10 a11 a12 a13 a14 w02 w03 w04 w12 w13 w14
  refine (QR.cellaretlaw4_RecApart.calls k a00 a01 a02 a03 a04 a10 a11 a12 a13 a14 true W h).mono fun e W' ⟨he, bel⟩ => ?_
  subst he
  exact ⟨_, rfl, _, _, _, [], _, [], hW', trodAll_mk1 (shut_bool Try.underlying4 _), (trodAll_cons_mk (Below.trod laidOut (by kernel_rfl) (of_decide_eq_true (by kernel_rfl)) k0 bel lt0) (trodAll_cons_mk (Below.trod laidOut (by kernel_rfl) (of_decide_eq_true (by kernel_rfl)) k1 bel lt1) trodAll_mk0)), rfl, bel.frame _, fun h => by cases h⟩
theorem over : Rows.recApartRow.holds Try.pinned (OpenSpec.ofChange Rows.recApartSpec) :=
  OpenClaim.holds_of_wide 19 Try.f19 rfl rfl rfl rfl rfl rfl rfl ⟨rfl, rfl, rfl, rfl, rfl⟩ rfl rfl rfl rfl rfl (by kernel_rfl) Try.func19 (by kernel_rfl)
    (of_decide_eq_true (by kernel_rfl)) (by unfold Func.isWrapper; first | (rw [if_pos (by decide +kernel)]; kernel_rfl) | (rw [if_neg (by decide +kernel)]; exact ⟨rfl, rfl⟩))
    (fun os started H enc _ => lifted os started H enc)
theorem proved : Rows.RecApartSaid := over
#print axioms proved
end Go.Proofs.Ytefalfheeofhhaa.recApart
namespace Go.Proofs.Ytefalfheeofhhaa
/-- The row, under a short name, for the claim. -/
theorem recApart_holds : Rows.RecApartSaid := recApart.proved
end Go.Proofs.Ytefalfheeofhhaa
