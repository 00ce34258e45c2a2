/- Run's row in TopCas. -/
import Derived.Test.YtbmdocjeepnhmaaGreatDoorEwTu
set_option linter.unusedVariables false
set_option linter.unusedSimpArgs false
set_option linter.unusedSectionVars false
namespace Go.Ev
open Go Go.RowKit Go.Proofs
set_option maxRecDepth 1000000
/-- What Run leaves: no place, the count; no picks. -/
noncomputable def behind (z : St) : St := ⟨Tr.set DT (Tr.set DT z.A 14 none) 6 (some (.v (.one (.y 30)))), z.n, ⟨Tr.set D z.h.t 0 none, z.h.n⟩⟩
def gIn : List (Nat × A1) := [(72, .y 72), (73, .y 73), (23, .i .i64 0), (22, .y 22), (21, .y 21), (27, .i .i64 0)]
def oIn : List (Nat × AO) := [(73, .y 73), (71, .y 71), (72, .y 72), (70, .y 70), (20, .row 5 1 [.i .u8 48])]
def gOut : List (Nat × A1) := [(30, .y 27), (21, .y 21), (22, .y 22), (50, .y 50), (51, .y 51), (52, .y 52), (53, .y 53), (72, .y 72), (73, .y 73), (112, .y 112), (113, .y 113)]
def oOut : List (Nat × AO) := [(70, .y 70), (71, .y 71), (72, .y 72), (73, .y 73)]
noncomputable def rowQ (z : St) : LoR where
 f := 17
 p := way17
 s0 := zS11
 fl := [(0, 488), (813, 0)]
 g := gIn
 ol := oIn
 sX := behind z
 x := .normal
 flOut := [(0, 813)]
 dead := []
noncomputable def outB (z : St) : Bool := chkSt [(0, 813)] gOut oOut (behind z) z && freeB (behind z).h && Nat.ble 813 (behind z).h.n && Nat.ble (behind z).h.n 2048
theorem out_S11 : outB zS11 = true := by kernel_rfl
theorem out_S0x0 : outB zS0x0 = true := by kernel_rfl
theorem out_T0x0 : outB zT0x0 = true := by kernel_rfl
theorem out_S0x1 : outB zS0x1 = true := by kernel_rfl
theorem out_T0x1 : outB zT0x1 = true := by kernel_rfl
theorem out_S0x2 : outB zS0x2 = true := by kernel_rfl
theorem out_T0x2 : outB zT0x2 = true := by kernel_rfl
theorem out_S0x3 : outB zS0x3 = true := by kernel_rfl
theorem out_T0x3 : outB zT0x3 = true := by kernel_rfl
theorem out_S0x4 : outB zS0x4 = true := by kernel_rfl
theorem out_T0x4 : outB zT0x4 = true := by kernel_rfl
theorem out_S1x0 : outB zS1x0 = true := by kernel_rfl
theorem out_T1x0 : outB zT1x0 = true := by kernel_rfl
theorem out_S1x1 : outB zS1x1 = true := by kernel_rfl
theorem out_T1x1 : outB zT1x1 = true := by kernel_rfl
theorem out_S1x2 : outB zS1x2 = true := by kernel_rfl
theorem out_T1x2 : outB zT1x2 = true := by kernel_rfl
theorem out_S1x3 : outB zS1x3 = true := by kernel_rfl
theorem out_T1x3 : outB zT1x3 = true := by kernel_rfl
theorem out_S1x4 : outB zS1x4 = true := by kernel_rfl
theorem out_T1x4 : outB zT1x4 = true := by kernel_rfl
theorem out_q : ∀ q ka kb, q < 5 → ka < 5 → kb < 5 → outB (zq ka kb q) = true
 | 0, _, _, _, _, _ => out_S11
 | 1, 0, _, _, _, _ => out_S0x0
 | 1, 1, _, _, _, _ => out_S0x1
 | 1, 2, _, _, _, _ => out_S0x2
 | 1, 3, _, _, _, _ => out_S0x3
 | 1, 4, _, _, _, _ => out_S0x4
 | 1, k + 5, _, _, h, _ => absurd h (by omega)
 | 2, _, 0, _, _, _ => out_S1x0
 | 2, _, 1, _, _, _ => out_S1x1
 | 2, _, 2, _, _, _ => out_S1x2
 | 2, _, 3, _, _, _ => out_S1x3
 | 2, _, 4, _, _, _ => out_S1x4
 | 2, _, k + 5, _, _, h => absurd h (by omega)
 | 3, 0, _, _, _, _ => out_T0x0
 | 3, 1, _, _, _, _ => out_T0x1
 | 3, 2, _, _, _, _ => out_T0x2
 | 3, 3, _, _, _, _ => out_T0x3
 | 3, 4, _, _, _, _ => out_T0x4
 | 3, k + 5, _, _, h, _ => absurd h (by omega)
 | 4, _, 0, _, _, _ => out_T1x0
 | 4, _, 1, _, _, _ => out_T1x1
 | 4, _, 2, _, _, _ => out_T1x2
 | 4, _, 3, _, _, _ => out_T1x3
 | 4, _, 4, _, _, _ => out_T1x4
 | 4, _, k + 5, _, _, h => absurd h (by omega)
 | q + 5, _, _, h, _, _ => absurd h (by omega)
theorem hN11 : zS11.h.n = 814 := by kernel_rfl
section
variable [CV] {D : Da} {ps : List Int} {w0 : Base} {ka kb : Nat}
theorem let_in {n : Nat} : LetV (syT D ps 0 n) (syT D ps 0 0) [(0, 488), (813, 0)] 814 gIn := by
 have e0 : ∀ d, nmF [(0, 488), (813, 0)] (bN d) = bN d := fun d => by unfold bN; split <;> rfl
 have e1 : ∀ d, nmF [(0, 488), (813, 0)] (bN d - 1) = bN d - 1 := fun d => by unfold bN; split <;> rfl
 refine ⟨fun _ => rfl, fun p hp => ?_⟩
 simp only [gIn, List.mem_cons, List.mem_nil_iff, or_false] at hp
 rcases hp with rfl | rfl | rfl | rfl | rfl | rfl
 · exact sim_fD (by decide) e0 e1 0 72
 · exact sim_fD (by decide) e0 e1 1 72
 · exact sim_plain rfl
 · exact sim_plain rfl
 · rfl
 · exact sim_plain rfl
theorem obj_in {n : Nat} : LetH (syT D ps 0 n) (syT D ps 0 0) [(0, 488), (813, 0)] 814 oIn := by
 intro p hp
 simp only [oIn, List.mem_cons, List.mem_nil_iff, or_false] at hp
 rcases hp with rfl | rfl | rfl | rfl | rfl <;> exact sim_row
theorem let_out {i n N : Nat} (hN : 813 ≤ N) : LetV (syT D ps i n) (syT D ps 0 n) [(0, 813)] N gOut := by
 have e0 : ∀ d, nmF [(0, 813)] (bN d) = bN d := fun d => by unfold bN; split <;> rfl
 have e1 : ∀ d, nmF [(0, 813)] (bN d - 1) = bN d - 1 := fun d => by unfold bN; split <;> rfl
 refine ⟨fun _ => rfl, fun p hp => ?_⟩
 simp only [gOut, List.mem_cons, List.mem_nil_iff, or_false] at hp
 rcases hp with rfl | rfl | rfl | rfl | rfl | rfl | rfl | rfl | rfl | rfl | rfl
 · exact sim_plain rfl
 · rfl
 · exact sim_plain rfl
 · exact sim_fD hN e0 e1 0 50
 · exact sim_fD hN e0 e1 1 50
 · exact sim_fD hN e0 e1 0 52
 · exact sim_fD hN e0 e1 1 52
 · exact sim_fD hN e0 e1 0 72
 · exact sim_fD hN e0 e1 1 72
 · exact sim_fD hN e0 e1 0 112
 · exact sim_fD hN e0 e1 1 112
theorem obj_out {i n N : Nat} : LetH (syT D ps i n) (syT D ps 0 n) [(0, 813)] N oOut := by
 intro p hp
 simp only [oOut, List.mem_cons, List.mem_nil_iff, or_false] at hp
 rcases hp with rfl | rfl | rfl | rfl <;> exact sim_row
theorem row_ok (ho : OrdOk w0 ps) (hl : ps.length ≤ 10) (ha5 : Cls (D.n 0) ka) (hb5 : Cls (D.n 1) kb) : LoROk (syT D ps 0 (runQ ps ps.length).2) w0 (rowQ (zq ka kb (runQ ps ps.length).1)) := by
 intro s' hit c hat E a w ha hr
 unfold LoR.hit at hit
 simp only [Bool.and_eq_true] at hit
 obtain ⟨⟨g1, g2⟩, g3⟩ := hit
 have hout := out_q (runQ ps ps.length).1 ka kb (runQ_ok ps ps.length).1 ha5.1 hb5.1
 unfold outB at hout
 simp only [Bool.and_eq_true] at hout
 have e0 : stT ps ka kb 0 = zS11 := rfl
 refine lo_row (sf := stT ps ka kb) (fam := famT D ps) (m := ps.length) (id := 0) (xL := .exit 0) (sL := stT ps ka kb ps.length) (gOut := gOut) (oOut := oOut) hat (by kernel_rfl) g2 (freeB_ok (fz_S11)) (by rw [e0, hN11]; decide) (by rw [e0, hN11]; exact let_in) (by rw [e0, hN11]; exact obj_in) ?_ ?_ (by intro h; cases h) rfl hout.1.1.1 (freeB_ok hout.1.1.2) (Nat.le_of_ble_eq_true hout.2) (let_out (Nat.le_of_ble_eq_true hout.1.2)) obj_out g1 g3 ha hr
 · intro i hi b hb E a w ha hr
   rw [e0, hN11]
   exact run_pass ho hl ha5 hb5 hi hb ha hr
 · intro b hb E a w ha hr
   rw [e0, hN11]
   exact run_last ha5 hb5 hb ha hr
end
end Go.Ev
