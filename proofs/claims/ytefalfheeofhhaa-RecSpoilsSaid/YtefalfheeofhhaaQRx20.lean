/- Laid by a program of this session: what the Go functions answer, as Lean functions, and the walks that prove it; no condition beyond what each statement names. -/
import Derived.Test.YtefalfheeofhhaaQRx0
import Derived.Test.YtefalfheeofhhaaQRx19
namespace Go.Proofs.Ytefalfheeofhhaa.QR
open Go.RowKit Go.Proofs.YtefalfheeofhhaaW.PrintWords Go.Proofs.YtefalfheeofhhaaW.PrintLast Go.Proofs.YtefalfheeofhhaaW.PrintMore
attribute [local go_sem] max2_int min2_int max_two min_two max_three min_three max_four min_four   -- for this text's walks alone
set_option linter.unusedVariables false
set_option linter.unusedSimpArgs false
/-! ### cellaretref4_crc: function 58 -/
def cellaretref4_crc.f (k : Nat) (a0 : ByteArray) : Option (Int) := if a0.size ≤ 9223372036854775807 then ((cellaretref1_Crc.f k (bytesOf a0)).bind fun t315 => (some (IntKind.u64.wrap (t315)))) else (none)
theorem cellaretref4_crc.mono : ∀ a0 k, LeO (cellaretref4_crc.f k a0) (cellaretref4_crc.f (k + 1) a0) := by
 intro a0 k; unfold cellaretref4_crc.f
 repeat' first
   | (with_reducible exact cellaretref1_Crc.mono _ _)
   | (with_reducible exact LeO.refl _)
   | (with_reducible exact LeO.none _)
   | (with_reducible refine LeO.ite ?_ ?_)
   | (with_reducible refine LeO.bind ?_ (fun _ => ?_))
   | exact cellaretref1_Crc.mono _ _
   | exact LeO.none _
   | refine LeO.ite ?_ ?_
   | refine LeO.bind ?_ (fun _ => ?_)
set_option maxHeartbeats 8000000 in
set_option maxRecDepth 100000 in
theorem cellaretref4_crc.calls (k : Nat) (a0 : ByteArray) (r : Int) (w : World) (h : cellaretref4_crc.f k a0 = some r) :
  Calls Try.prog 58 #[.string a0] w fun e w' => e = .returned (.int .u64 r) ∧ Below w.heap.size w w' := by
 have HB := Aside0.mk (Below.refl w.heap.size w); have H : (if a0.size ≤ 9223372036854775807 then ((cellaretref1_Crc.f k (bytesOf a0)).bind fun t315 => (some (IntKind.u64.wrap (t315)))) else (none)) = some r := h; clear h; by_cases c2 : a0.size ≤ 9223372036854775807; (·rw [if_pos c2] at H; have c2b0 := eq_true c2; have c2b1 : decide (a0.size ≤ 9223372036854775807) = true := decide_eq_true c2; (try have c2b2 : (9223372036854775807 < a0.size) = False := eq_false (Nat.not_lt.2 c2)); clear c2; obtain ⟨y312, hy312⟩ : ∃ y_ : List Int, y_ = (bytesOf a0) := ⟨_, rfl⟩; (replace H : ((cellaretref1_Crc.f k y312).bind fun t315 => (some (IntKind.u64.wrap (t315)))) = some r := by first | (rw [hy312]; with_reducible exact H) | (have H2_ := (Option.bind_some _ _).symm.trans H; rw [hy312]; with_reducible exact H2_) | (have H2_ := (Option.bind_some _ _).symm.trans H; with_reducible exact H2_) | with_reducible exact H | (rw [hy312]; exact H) | exact H); have Ny312 := Aside0.mk hy312; clear hy312; replace H := Option.bind_eq_some_iff.mp H; obtain ⟨t315, A30, H⟩ := H; have A3 := Aside0.mk A30; clear A30; obtain rfl := Option.some.inj H; (go_enter Try.func58, Try.ntmps58); (go_wp2_with (first | ((with_reducible refine gate_dst (N := 4) rfl ?_); (try (refine gate_guard (by rfl) ?_; dsimp only)); refine conv_gate (N := 4) rfl rfl rfl a0 rfl Try.underlying9 Try.underlying28 Try.underlying5 (of_decide_eq_true (by first | (with_reducible assumption) | assumption)) (Below.refl _ _) (Nat.le_refl _) ?_; intro v313 w4 ho5 hb hg_; clear hg_; rw [← Ny312.out] at ho5; have n0_ := Aside0.mk (Kd.V_lower (Kd.V_mono (ok' := fun k_ => True) ho5 (fun k_ hk_ => trivial)) (below_size (by repeat (first | (with_reducible first | exact HB.out | apply below_alloc | apply pw_below_drewN | apply below_drew1) | exact HB.out)))); have n1_ := Aside0.mk (below_step (by repeat (first | (with_reducible first | exact HB.out | apply below_alloc | apply pw_below_drewN | apply below_drew1) | exact HB.out)) hb); clear HB; have HO314 := n0_; have HB := n1_; clear n0_ n1_; clear hb ho5; obtain ⟨Ao6, co6, eo6⟩ := Kd.V_slice HO314.out; subst eo6) | ((with_reducible refine gate_callee (f := 27) rfl ?_); refine goesL_ (some 5) rfl rfl Try.func27 (by kernel_rfl) rfl #[.slice Ao6 y312.length co6] rfl (by (try simp only [List.map_toArray, List.map_cons, List.map_nil]); first | done | rfl | (simp only [List.length_drop, List.length_take]; rfl) | (go_simp; done) | (go_simp; rfl)) ?_; (with_reducible refine (cellaretref1_Crc.calls k _ _ y312 t315 _ ?side1 ?side2 A3.out).mono ?_); (case side1 => repeat (first | exact (Kd.V_reads' HO314.out).2.2 | (with_reducible refine Kd.C_alloc ?_ _) | (with_reducible refine Kd.C_drewN ?_ _) | (with_reducible refine Kd.C_drew ?_))); (case side2 => exact (Kd.V_reads' HO314.out).2.1); rintro e w' ⟨rfl, ⟨nd, rfl⟩⟩; refine ⟨_, rfl, ?_⟩))); (go_ret); exact ⟨by first | rfl | (simp [errW_none, errW_some] <;> rfl) | (simp [*, errW_none, errW_some] <;> rfl), by repeat (first | (with_reducible first | exact HB.out | apply below_alloc | apply pw_below_drewN | apply below_drew1) | exact HB.out)⟩)
 ·rw [if_neg c2] at H; exact absurd H (by simp)
end Go.Proofs.Ytefalfheeofhhaa.QR
