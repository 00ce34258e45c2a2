/- Laid by a program of this session: what the Go functions answer, as Lean functions, and the walks that prove it; no condition beyond what each statement names. -/
import Derived.Test.YtefalfheeofhhaaQVx0
import Derived.Test.YtefalfheeofhhaaQVx1
namespace Go.Proofs.Ytefalfheeofhhaa.QV
open Go.RowKit Go.Proofs.YtefalfheeofhhaaW.PrintWords Go.Proofs.YtefalfheeofhhaaW.PrintLast Go.Proofs.YtefalfheeofhhaaW.PrintMore
attribute [local go_sem] max2_int min2_int max_two min_two max_three min_three max_four min_four   -- for this text's walks alone
set_option linter.unusedVariables false
set_option linter.unusedSimpArgs false

/-! ### cellaretref4_Bit: function 33 -/
def cellaretref4_Bit.f (k : Nat) (a0 : ByteArray) (a1 : Int) (a2 : Int) : Option (Int) := (cellaretref1_Hash.f k a0).bind fun t130 => ((cellaretref1_Second.f k a0).bind fun t131 => (if (IntKind.u64.wrap (a2)) = 0 then (none) else (some (wrap64 (Int.tmod (IntKind.u64.wrap (t130 + (IntKind.u64.wrap ((IntKind.u64.wrap (a1)) * (Go.bits .or .u64 t131 1))))) (IntKind.u64.wrap (a2)))))))
theorem cellaretref4_Bit.mono : ∀ a0 a1 a2 k, LeO (cellaretref4_Bit.f k a0 a1 a2) (cellaretref4_Bit.f (k + 1) a0 a1 a2) := by
 intro a0 a1 a2 k
 unfold cellaretref4_Bit.f
 repeat' first
   | (with_reducible exact cellaretref1_Hash.mono _ _)
   | (with_reducible exact cellaretref1_Second.mono _ _)
   | (with_reducible exact LeO.refl _)
   | (with_reducible exact LeO.none _)
   | (with_reducible refine LeO.ite ?_ ?_)
   | (with_reducible refine LeO.bind ?_ (fun _ => ?_))
   | exact cellaretref1_Hash.mono _ _
   | exact cellaretref1_Second.mono _ _
   | exact LeO.none _
   | refine LeO.ite ?_ ?_
   | refine LeO.bind ?_ (fun _ => ?_)
set_option maxHeartbeats 8000000 in
set_option maxRecDepth 100000 in
theorem cellaretref4_Bit.calls (k : Nat) (a0 : ByteArray) (a1 : Int) (a2 : Int) (r : Int) (w : World) (h : cellaretref4_Bit.f k a0 a1 a2 = some r) :
  Calls Try.prog 33 #[.string a0, .int .i64 a1, .int .i64 a2] w fun e w' => e = .returned (.int .i64 r) ∧ Drawn0 w w' := by
 have H : ((cellaretref1_Hash.f k a0).bind fun t130 => ((cellaretref1_Second.f k a0).bind fun t131 => (if (IntKind.u64.wrap (a2)) = 0 then (none) else (some (wrap64 (Int.tmod (IntKind.u64.wrap (t130 + (IntKind.u64.wrap ((IntKind.u64.wrap (a1)) * (Go.bits .or .u64 t131 1))))) (IntKind.u64.wrap (a2)))))))) = some r := h
 clear h
 replace H := Option.bind_eq_some_iff.mp H
 obtain ⟨t130, A40, H⟩ := H
 replace H : ((cellaretref1_Second.f k a0).bind fun t131 => (if (IntKind.u64.wrap (a2)) = 0 then (none) else (some (wrap64 (Int.tmod (IntKind.u64.wrap (t130 + (IntKind.u64.wrap ((IntKind.u64.wrap (a1)) * (Go.bits .or .u64 t131 1))))) (IntKind.u64.wrap (a2))))))) = some r := H
 have A4 := Aside0.mk A40
 clear A40
 replace H := Option.bind_eq_some_iff.mp H
 obtain ⟨t131, A50, H⟩ := H
 replace H : (if (IntKind.u64.wrap (a2)) = 0 then (none) else (some (wrap64 (Int.tmod (IntKind.u64.wrap (t130 + (IntKind.u64.wrap ((IntKind.u64.wrap (a1)) * (Go.bits .or .u64 t131 1))))) (IntKind.u64.wrap (a2)))))) = some r := H
 have A5 := Aside0.mk A50
 clear A50
 by_cases c6 : (IntKind.u64.wrap (a2)) = 0
 ·rw [if_pos c6] at H
  exact absurd H (by simp)
 ·rw [if_neg c6] at H
  have c6b0 : ((IntKind.u64.wrap (a2)) == 0) = false := beq_eq_false_iff_ne.mpr c6
  have c6b1 : ((IntKind.u64.wrap (a2)) != 0) = true := bne_iff_ne.mpr c6
  obtain rfl := Option.some.inj H
  go_enter Try.func33, Try.ntmps33
  go_wp2_with (first | ((with_reducible refine gate_callee (f := 29) rfl ?_); refine goesL_ (some 8) rfl rfl Try.func29 (by kernel_rfl) rfl #[.string a0] rfl (by (try simp only [List.map_toArray, List.map_cons, List.map_nil]); first | done | rfl | (simp only [List.length_drop, List.length_take]; rfl) | (go_simp; done) | (go_simp; rfl)) ?_; (with_reducible refine (cellaretref1_Hash.calls k a0 t130 _ A4.out).mono ?_); rintro e w' ⟨rfl, ⟨nd, rfl⟩⟩; refine ⟨_, rfl, ?_⟩) | ((with_reducible refine gate_callee (f := 25) rfl ?_); refine goesL_ (some 12) rfl rfl Try.func25 (by kernel_rfl) rfl #[.string a0] rfl (by (try simp only [List.map_toArray, List.map_cons, List.map_nil]); first | done | rfl | (simp only [List.length_drop, List.length_take]; rfl) | (go_simp; done) | (go_simp; rfl)) ?_; (with_reducible refine (cellaretref1_Second.calls k a0 t131 _ A5.out).mono ?_); rintro e w' ⟨rfl, ⟨nd, rfl⟩⟩; refine ⟨_, rfl, ?_⟩))
  go_ret
  exact ⟨by first | rfl | (simp; done) | (simp [*]; done), by repeat (first | exact Drawn0.refl _ | apply Drawn0.step)⟩

-- NOT PRINTED: function 11 (cellaretlaw7_BloomSays)

end Go.Proofs.Ytefalfheeofhhaa.QV
