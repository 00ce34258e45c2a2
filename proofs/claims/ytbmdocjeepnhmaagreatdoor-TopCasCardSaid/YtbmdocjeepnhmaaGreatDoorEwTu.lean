/- Nothing is told of names that are not given. -/
import Derived.Test.YtbmdocjeepnhmaaGreatDoorEwZ
import Derived.Test.YtbmdocjeepnhmaaGreatDoorEwTr
import Derived.Test.YtbmdocjeepnhmaaGreatDoorEwE0
import Derived.Test.YtbmdocjeepnhmaaGreatDoorEwE1
import Derived.Test.YtbmdocjeepnhmaaGreatDoorEwE2
import Derived.Test.YtbmdocjeepnhmaaGreatDoorEwE3
import Derived.Test.YtbmdocjeepnhmaaGreatDoorEwM0
import Derived.Test.YtbmdocjeepnhmaaGreatDoorEwM2
import Derived.Test.YtbmdocjeepnhmaaGreatDoorEwM3
import Derived.Test.YtbmdocjeepnhmaaGreatDoorEwM1
import Derived.Test.YtbmdocjeepnhmaaGreatDoorEwM4
set_option linter.unusedVariables false
set_option linter.unusedSimpArgs false
set_option linter.unusedSectionVars false
namespace Go.Ev
open Go Go.RowKit Go.Proofs
set_option maxRecDepth 1000000
theorem fz_S11 : freeB zS11.h = true := by kernel_rfl
theorem fz_S0x0 : freeB zS0x0.h = true := by kernel_rfl
theorem fz_T0x0 : freeB zT0x0.h = true := by kernel_rfl
theorem fz_S0x1 : freeB zS0x1.h = true := by kernel_rfl
theorem fz_T0x1 : freeB zT0x1.h = true := by kernel_rfl
theorem fz_S0x2 : freeB zS0x2.h = true := by kernel_rfl
theorem fz_T0x2 : freeB zT0x2.h = true := by kernel_rfl
theorem fz_S0x3 : freeB zS0x3.h = true := by kernel_rfl
theorem fz_T0x3 : freeB zT0x3.h = true := by kernel_rfl
theorem fz_S0x4 : freeB zS0x4.h = true := by kernel_rfl
theorem fz_T0x4 : freeB zT0x4.h = true := by kernel_rfl
theorem fz_S1x0 : freeB zS1x0.h = true := by kernel_rfl
theorem fz_T1x0 : freeB zT1x0.h = true := by kernel_rfl
theorem fz_S1x1 : freeB zS1x1.h = true := by kernel_rfl
theorem fz_T1x1 : freeB zT1x1.h = true := by kernel_rfl
theorem fz_S1x2 : freeB zS1x2.h = true := by kernel_rfl
theorem fz_T1x2 : freeB zT1x2.h = true := by kernel_rfl
theorem fz_S1x3 : freeB zS1x3.h = true := by kernel_rfl
theorem fz_T1x3 : freeB zT1x3.h = true := by kernel_rfl
theorem fz_S1x4 : freeB zS1x4.h = true := by kernel_rfl
theorem fz_T1x4 : freeB zT1x4.h = true := by kernel_rfl
end Go.Ev
namespace Go.Ev
open Go Go.RowKit Go.Proofs
set_option maxRecDepth 1000000
theorem ok_S11 : okSt zS11 = true := by kernel_rfl
theorem ok_S0x0 : okSt zS0x0 = true := by kernel_rfl
theorem ok_T0x0 : okSt zT0x0 = true := by kernel_rfl
theorem ok_S0x1 : okSt zS0x1 = true := by kernel_rfl
theorem ok_T0x1 : okSt zT0x1 = true := by kernel_rfl
theorem ok_S0x2 : okSt zS0x2 = true := by kernel_rfl
theorem ok_T0x2 : okSt zT0x2 = true := by kernel_rfl
theorem ok_S0x3 : okSt zS0x3 = true := by kernel_rfl
theorem ok_T0x3 : okSt zT0x3 = true := by kernel_rfl
theorem ok_S0x4 : okSt zS0x4 = true := by kernel_rfl
theorem ok_T0x4 : okSt zT0x4 = true := by kernel_rfl
theorem ok_S1x0 : okSt zS1x0 = true := by kernel_rfl
theorem ok_T1x0 : okSt zT1x0 = true := by kernel_rfl
theorem ok_S1x1 : okSt zS1x1 = true := by kernel_rfl
theorem ok_T1x1 : okSt zT1x1 = true := by kernel_rfl
theorem ok_S1x2 : okSt zS1x2 = true := by kernel_rfl
theorem ok_T1x2 : okSt zT1x2 = true := by kernel_rfl
theorem ok_S1x3 : okSt zS1x3 = true := by kernel_rfl
theorem ok_T1x3 : okSt zT1x3 = true := by kernel_rfl
theorem ok_S1x4 : okSt zS1x4 = true := by kernel_rfl
theorem ok_T1x4 : okSt zT1x4 = true := by kernel_rfl
noncomputable def zS (d k : Nat) : St := match d, k with
 | 0, 0 => zS0x0
 | 0, 1 => zS0x1
 | 0, 2 => zS0x2
 | 0, 3 => zS0x3
 | 0, _ => zS0x4
 | _, 0 => zS1x0
 | _, 1 => zS1x1
 | _, 2 => zS1x2
 | _, 3 => zS1x3
 | _, _ => zS1x4
noncomputable def zT (d k : Nat) : St := match d, k with
 | 0, 0 => zT0x0
 | 0, 1 => zT0x1
 | 0, 2 => zT0x2
 | 0, 3 => zT0x3
 | 0, _ => zT0x4
 | _, 0 => zT1x0
 | _, 1 => zT1x1
 | _, 2 => zT1x2
 | _, 3 => zT1x3
 | _, _ => zT1x4
/-- The states: nothing done; the one; the other; the one, then the other; the other, then the one. -/
noncomputable def zq (ka kb : Nat) (q : Nat) : St := match q with
 | 0 => zS11
 | 1 => zS 0 ka
 | 2 => zS 1 kb
 | 3 => zT 0 ka
 | _ => zT 1 kb
theorem ok_q : ∀ q ka kb, q < 5 → ka < 5 → kb < 5 → okSt (zq ka kb q) = true
 | 0, _, _, _, _, _ => ok_S11
 | 1, 0, _, _, _, _ => ok_S0x0
 | 1, 1, _, _, _, _ => ok_S0x1
 | 1, 2, _, _, _, _ => ok_S0x2
 | 1, 3, _, _, _, _ => ok_S0x3
 | 1, 4, _, _, _, _ => ok_S0x4
 | 1, k + 5, _, _, h, _ => absurd h (by omega)
 | 2, _, 0, _, _, _ => ok_S1x0
 | 2, _, 1, _, _, _ => ok_S1x1
 | 2, _, 2, _, _, _ => ok_S1x2
 | 2, _, 3, _, _, _ => ok_S1x3
 | 2, _, 4, _, _, _ => ok_S1x4
 | 2, _, k + 5, _, _, h => absurd h (by omega)
 | 3, 0, _, _, _, _ => ok_T0x0
 | 3, 1, _, _, _, _ => ok_T0x1
 | 3, 2, _, _, _, _ => ok_T0x2
 | 3, 3, _, _, _, _ => ok_T0x3
 | 3, 4, _, _, _, _ => ok_T0x4
 | 3, k + 5, _, _, h, _ => absurd h (by omega)
 | 4, _, 0, _, _, _ => ok_T1x0
 | 4, _, 1, _, _, _ => ok_T1x1
 | 4, _, 2, _, _, _ => ok_T1x2
 | 4, _, 3, _, _, _ => ok_T1x3
 | 4, _, 4, _, _, _ => ok_T1x4
 | 4, _, k + 5, _, _, h => absurd h (by omega)
 | q + 5, _, _, h, _, _ => absurd h (by omega)
theorem neg_q : ∀ q ka kb, q < 5 → ka < 5 → kb < 5 → Pass .normal (KP (tabI1 true) (exI exB)) (zq ka kb q) (zq ka kb q) 26 27
 | 0, _, _, _, _, _ => ⟨_, _, by rfl, by rfl, neg_S11⟩
 | 1, 0, _, _, _, _ => ⟨_, _, by rfl, by rfl, neg_S0x0⟩
 | 1, 1, _, _, _, _ => ⟨_, _, by rfl, by rfl, neg_S0x1⟩
 | 1, 2, _, _, _, _ => ⟨_, _, by rfl, by rfl, neg_S0x2⟩
 | 1, 3, _, _, _, _ => ⟨_, _, by rfl, by rfl, neg_S0x3⟩
 | 1, 4, _, _, _, _ => ⟨_, _, by rfl, by rfl, neg_S0x4⟩
 | 1, k + 5, _, _, h, _ => absurd h (by omega)
 | 2, _, 0, _, _, _ => ⟨_, _, by rfl, by rfl, neg_S1x0⟩
 | 2, _, 1, _, _, _ => ⟨_, _, by rfl, by rfl, neg_S1x1⟩
 | 2, _, 2, _, _, _ => ⟨_, _, by rfl, by rfl, neg_S1x2⟩
 | 2, _, 3, _, _, _ => ⟨_, _, by rfl, by rfl, neg_S1x3⟩
 | 2, _, 4, _, _, _ => ⟨_, _, by rfl, by rfl, neg_S1x4⟩
 | 2, _, k + 5, _, _, h => absurd h (by omega)
 | 3, 0, _, _, _, _ => ⟨_, _, by rfl, by rfl, neg_T0x0⟩
 | 3, 1, _, _, _, _ => ⟨_, _, by rfl, by rfl, neg_T0x1⟩
 | 3, 2, _, _, _, _ => ⟨_, _, by rfl, by rfl, neg_T0x2⟩
 | 3, 3, _, _, _, _ => ⟨_, _, by rfl, by rfl, neg_T0x3⟩
 | 3, 4, _, _, _, _ => ⟨_, _, by rfl, by rfl, neg_T0x4⟩
 | 3, k + 5, _, _, h, _ => absurd h (by omega)
 | 4, _, 0, _, _, _ => ⟨_, _, by rfl, by rfl, neg_T1x0⟩
 | 4, _, 1, _, _, _ => ⟨_, _, by rfl, by rfl, neg_T1x1⟩
 | 4, _, 2, _, _, _ => ⟨_, _, by rfl, by rfl, neg_T1x2⟩
 | 4, _, 3, _, _, _ => ⟨_, _, by rfl, by rfl, neg_T1x3⟩
 | 4, _, 4, _, _, _ => ⟨_, _, by rfl, by rfl, neg_T1x4⟩
 | 4, _, k + 5, _, _, h => absurd h (by omega)
 | q + 5, _, _, h, _, _ => absurd h (by omega)
theorem no0_q : ∀ q ka kb, q < 5 → ka < 5 → kb < 5 → Pass .normal (KP (tabI2 0) (exI exB)) (zq ka kb q) (zq ka kb q) 26 27
 | 0, _, _, _, _, _ => ⟨_, _, by rfl, by rfl, no0_S11⟩
 | 1, 0, _, _, _, _ => ⟨_, _, by rfl, by rfl, no0_S0x0⟩
 | 1, 1, _, _, _, _ => ⟨_, _, by rfl, by rfl, no0_S0x1⟩
 | 1, 2, _, _, _, _ => ⟨_, _, by rfl, by rfl, no0_S0x2⟩
 | 1, 3, _, _, _, _ => ⟨_, _, by rfl, by rfl, no0_S0x3⟩
 | 1, 4, _, _, _, _ => ⟨_, _, by rfl, by rfl, no0_S0x4⟩
 | 1, k + 5, _, _, h, _ => absurd h (by omega)
 | 2, _, 0, _, _, _ => ⟨_, _, by rfl, by rfl, no0_S1x0⟩
 | 2, _, 1, _, _, _ => ⟨_, _, by rfl, by rfl, no0_S1x1⟩
 | 2, _, 2, _, _, _ => ⟨_, _, by rfl, by rfl, no0_S1x2⟩
 | 2, _, 3, _, _, _ => ⟨_, _, by rfl, by rfl, no0_S1x3⟩
 | 2, _, 4, _, _, _ => ⟨_, _, by rfl, by rfl, no0_S1x4⟩
 | 2, _, k + 5, _, _, h => absurd h (by omega)
 | 3, 0, _, _, _, _ => ⟨_, _, by rfl, by rfl, no0_T0x0⟩
 | 3, 1, _, _, _, _ => ⟨_, _, by rfl, by rfl, no0_T0x1⟩
 | 3, 2, _, _, _, _ => ⟨_, _, by rfl, by rfl, no0_T0x2⟩
 | 3, 3, _, _, _, _ => ⟨_, _, by rfl, by rfl, no0_T0x3⟩
 | 3, 4, _, _, _, _ => ⟨_, _, by rfl, by rfl, no0_T0x4⟩
 | 3, k + 5, _, _, h, _ => absurd h (by omega)
 | 4, _, 0, _, _, _ => ⟨_, _, by rfl, by rfl, no0_T1x0⟩
 | 4, _, 1, _, _, _ => ⟨_, _, by rfl, by rfl, no0_T1x1⟩
 | 4, _, 2, _, _, _ => ⟨_, _, by rfl, by rfl, no0_T1x2⟩
 | 4, _, 3, _, _, _ => ⟨_, _, by rfl, by rfl, no0_T1x3⟩
 | 4, _, 4, _, _, _ => ⟨_, _, by rfl, by rfl, no0_T1x4⟩
 | 4, _, k + 5, _, _, h => absurd h (by omega)
 | q + 5, _, _, h, _, _ => absurd h (by omega)
theorem end_q : ∀ q ka kb, q < 5 → ka < 5 → kb < 5 → Pass (.exit 0) (KP0 (tabI0 false)) (zq ka kb q) (zq ka kb q) 23 27
 | 0, _, _, _, _, _ => ⟨_, _, by rfl, by rfl, end_S11⟩
 | 1, 0, _, _, _, _ => ⟨_, _, by rfl, by rfl, end_S0x0⟩
 | 1, 1, _, _, _, _ => ⟨_, _, by rfl, by rfl, end_S0x1⟩
 | 1, 2, _, _, _, _ => ⟨_, _, by rfl, by rfl, end_S0x2⟩
 | 1, 3, _, _, _, _ => ⟨_, _, by rfl, by rfl, end_S0x3⟩
 | 1, 4, _, _, _, _ => ⟨_, _, by rfl, by rfl, end_S0x4⟩
 | 1, k + 5, _, _, h, _ => absurd h (by omega)
 | 2, _, 0, _, _, _ => ⟨_, _, by rfl, by rfl, end_S1x0⟩
 | 2, _, 1, _, _, _ => ⟨_, _, by rfl, by rfl, end_S1x1⟩
 | 2, _, 2, _, _, _ => ⟨_, _, by rfl, by rfl, end_S1x2⟩
 | 2, _, 3, _, _, _ => ⟨_, _, by rfl, by rfl, end_S1x3⟩
 | 2, _, 4, _, _, _ => ⟨_, _, by rfl, by rfl, end_S1x4⟩
 | 2, _, k + 5, _, _, h => absurd h (by omega)
 | 3, 0, _, _, _, _ => ⟨_, _, by rfl, by rfl, end_T0x0⟩
 | 3, 1, _, _, _, _ => ⟨_, _, by rfl, by rfl, end_T0x1⟩
 | 3, 2, _, _, _, _ => ⟨_, _, by rfl, by rfl, end_T0x2⟩
 | 3, 3, _, _, _, _ => ⟨_, _, by rfl, by rfl, end_T0x3⟩
 | 3, 4, _, _, _, _ => ⟨_, _, by rfl, by rfl, end_T0x4⟩
 | 3, k + 5, _, _, h, _ => absurd h (by omega)
 | 4, _, 0, _, _, _ => ⟨_, _, by rfl, by rfl, end_T1x0⟩
 | 4, _, 1, _, _, _ => ⟨_, _, by rfl, by rfl, end_T1x1⟩
 | 4, _, 2, _, _, _ => ⟨_, _, by rfl, by rfl, end_T1x2⟩
 | 4, _, 3, _, _, _ => ⟨_, _, by rfl, by rfl, end_T1x3⟩
 | 4, _, 4, _, _, _ => ⟨_, _, by rfl, by rfl, end_T1x4⟩
 | 4, _, k + 5, _, _, h => absurd h (by omega)
 | q + 5, _, _, h, _, _ => absurd h (by omega)
theorem no1_q : ∀ q ka kb, q < 5 → ka < 5 → kb < 5 → (q = 1 ∨ q = 3 ∨ q = 4) → Pass .normal (KP (tabI2 1 ++ tabN 0) (exT (xlN 0) (exI exB))) (zq ka kb q) (zq ka kb q) 26 27
 | 0, _, _, _, _, _, h => absurd h (by decide)
 | 1, 0, _, _, _, _, _ => ⟨_, _, by rfl, by rfl, no1_S0x0⟩
 | 1, 1, _, _, _, _, _ => ⟨_, _, by rfl, by rfl, no1_S0x1⟩
 | 1, 2, _, _, _, _, _ => ⟨_, _, by rfl, by rfl, no1_S0x2⟩
 | 1, 3, _, _, _, _, _ => ⟨_, _, by rfl, by rfl, no1_S0x3⟩
 | 1, 4, _, _, _, _, _ => ⟨_, _, by rfl, by rfl, no1_S0x4⟩
 | 1, k + 5, _, _, h, _, _ => absurd h (by omega)
 | 2, _, _, _, _, _, h => absurd h (by decide)
 | 3, 0, _, _, _, _, _ => ⟨_, _, by rfl, by rfl, no1_T0x0⟩
 | 3, 1, _, _, _, _, _ => ⟨_, _, by rfl, by rfl, no1_T0x1⟩
 | 3, 2, _, _, _, _, _ => ⟨_, _, by rfl, by rfl, no1_T0x2⟩
 | 3, 3, _, _, _, _, _ => ⟨_, _, by rfl, by rfl, no1_T0x3⟩
 | 3, 4, _, _, _, _, _ => ⟨_, _, by rfl, by rfl, no1_T0x4⟩
 | 3, k + 5, _, _, h, _, _ => absurd h (by omega)
 | 4, _, 0, _, _, _, _ => ⟨_, _, by rfl, by rfl, no1_T1x0⟩
 | 4, _, 1, _, _, _, _ => ⟨_, _, by rfl, by rfl, no1_T1x1⟩
 | 4, _, 2, _, _, _, _ => ⟨_, _, by rfl, by rfl, no1_T1x2⟩
 | 4, _, 3, _, _, _, _ => ⟨_, _, by rfl, by rfl, no1_T1x3⟩
 | 4, _, 4, _, _, _, _ => ⟨_, _, by rfl, by rfl, no1_T1x4⟩
 | 4, _, k + 5, _, _, h, _ => absurd h (by omega)
 | q + 5, _, _, h, _, _, _ => absurd h (by omega)
theorem no2_q : ∀ q ka kb, q < 5 → ka < 5 → kb < 5 → (q = 2 ∨ q = 3 ∨ q = 4) → Pass .normal (KP (tabI2 2 ++ tabN 1) (exT (xlN 1) (exI exB))) (zq ka kb q) (zq ka kb q) 26 27
 | 0, _, _, _, _, _, h => absurd h (by decide)
 | 1, _, _, _, _, _, h => absurd h (by decide)
 | 2, _, 0, _, _, _, _ => ⟨_, _, by rfl, by rfl, no2_S1x0⟩
 | 2, _, 1, _, _, _, _ => ⟨_, _, by rfl, by rfl, no2_S1x1⟩
 | 2, _, 2, _, _, _, _ => ⟨_, _, by rfl, by rfl, no2_S1x2⟩
 | 2, _, 3, _, _, _, _ => ⟨_, _, by rfl, by rfl, no2_S1x3⟩
 | 2, _, 4, _, _, _, _ => ⟨_, _, by rfl, by rfl, no2_S1x4⟩
 | 2, _, k + 5, _, _, h, _ => absurd h (by omega)
 | 3, 0, _, _, _, _, _ => ⟨_, _, by rfl, by rfl, no2_T0x0⟩
 | 3, 1, _, _, _, _, _ => ⟨_, _, by rfl, by rfl, no2_T0x1⟩
 | 3, 2, _, _, _, _, _ => ⟨_, _, by rfl, by rfl, no2_T0x2⟩
 | 3, 3, _, _, _, _, _ => ⟨_, _, by rfl, by rfl, no2_T0x3⟩
 | 3, 4, _, _, _, _, _ => ⟨_, _, by rfl, by rfl, no2_T0x4⟩
 | 3, k + 5, _, _, h, _, _ => absurd h (by omega)
 | 4, _, 0, _, _, _, _ => ⟨_, _, by rfl, by rfl, no2_T1x0⟩
 | 4, _, 1, _, _, _, _ => ⟨_, _, by rfl, by rfl, no2_T1x1⟩
 | 4, _, 2, _, _, _, _ => ⟨_, _, by rfl, by rfl, no2_T1x2⟩
 | 4, _, 3, _, _, _, _ => ⟨_, _, by rfl, by rfl, no2_T1x3⟩
 | 4, _, 4, _, _, _, _ => ⟨_, _, by rfl, by rfl, no2_T1x4⟩
 | 4, _, k + 5, _, _, h, _ => absurd h (by omega)
 | q + 5, _, _, h, _, _, _ => absurd h (by omega)
/-- A pass that does one's step. -/
def Go1 (S : Sy) (t : Nat) (s s' : St) : Prop := ∃ ex, (∀ z, @CallOk S Tryz.prog z ex) ∧ Pass .normal (KP (.bin .add (.y 27) (.i .i64 1) (.y 28) :: tabI2 t) ex) s s' 26 28
section
variable {S : Sy} {D : Da}
theorem go_S0x0 (hT : Tx D S) (hk : Cls (D.n 0) 0) : Go1 S 1 zS11 zS0x0 := ⟨memoF 57 XS0x0 HS0x0 RS0x0 (exI exB), fun z => memoF_ok (K := KT (tabC 0 ++ tabK 0 0) (t2C 0) (xlC 0)) (fun z => KT_ok hT (by decide) (mem_app (tabC_ok hT (by decide)) (tabK_ok hT (by decide) hk))) run_S0x0 fr_S0x0 fh_S0x0 (exI_ok (@exB_ok S z)), _, _, by rfl, by rfl, pass_S0x0⟩
theorem go_T0x0 (hT : Tx D S) : Go1 S 2 zS0x0 zT0x0 := ⟨memoF 57 XT0x0 HT0x0 RT0x0 (exI exB), fun z => memoF_ok (K := KT (tabC 1) (t2C 1) (xlC 1)) (fun z => KT_ok hT (by decide) (tabC_ok hT (by decide))) run_T0x0 fr_T0x0 fh_T0x0 (exI_ok (@exB_ok S z)), _, _, by rfl, by rfl, pass_T0x0⟩
theorem go_S0x1 (hT : Tx D S) (hk : Cls (D.n 0) 1) : Go1 S 1 zS11 zS0x1 := ⟨memoF 57 XS0x1 HS0x1 RS0x1 (exI exB), fun z => memoF_ok (K := KT (tabC 0 ++ tabK 0 1) (t2C 0) (xlC 0)) (fun z => KT_ok hT (by decide) (mem_app (tabC_ok hT (by decide)) (tabK_ok hT (by decide) hk))) run_S0x1 fr_S0x1 fh_S0x1 (exI_ok (@exB_ok S z)), _, _, by rfl, by rfl, pass_S0x1⟩
theorem go_T0x1 (hT : Tx D S) : Go1 S 2 zS0x1 zT0x1 := ⟨memoF 57 XT0x1 HT0x1 RT0x1 (exI exB), fun z => memoF_ok (K := KT (tabC 1) (t2C 1) (xlC 1)) (fun z => KT_ok hT (by decide) (tabC_ok hT (by decide))) run_T0x1 fr_T0x1 fh_T0x1 (exI_ok (@exB_ok S z)), _, _, by rfl, by rfl, pass_T0x1⟩
theorem go_S0x2 (hT : Tx D S) (hk : Cls (D.n 0) 2) : Go1 S 1 zS11 zS0x2 := ⟨memoF 57 XS0x2 HS0x2 RS0x2 (exI exB), fun z => memoF_ok (K := KT (tabC 0 ++ tabK 0 2) (t2C 0) (xlC 0)) (fun z => KT_ok hT (by decide) (mem_app (tabC_ok hT (by decide)) (tabK_ok hT (by decide) hk))) run_S0x2 fr_S0x2 fh_S0x2 (exI_ok (@exB_ok S z)), _, _, by rfl, by rfl, pass_S0x2⟩
theorem go_T0x2 (hT : Tx D S) : Go1 S 2 zS0x2 zT0x2 := ⟨memoF 57 XT0x2 HT0x2 RT0x2 (exI exB), fun z => memoF_ok (K := KT (tabC 1) (t2C 1) (xlC 1)) (fun z => KT_ok hT (by decide) (tabC_ok hT (by decide))) run_T0x2 fr_T0x2 fh_T0x2 (exI_ok (@exB_ok S z)), _, _, by rfl, by rfl, pass_T0x2⟩
theorem go_S0x3 (hT : Tx D S) (hk : Cls (D.n 0) 3) : Go1 S 1 zS11 zS0x3 := ⟨memoF 57 XS0x3 HS0x3 RS0x3 (exI exB), fun z => memoF_ok (K := KT (tabC 0 ++ tabK 0 3) (t2C 0) (xlC 0)) (fun z => KT_ok hT (by decide) (mem_app (tabC_ok hT (by decide)) (tabK_ok hT (by decide) hk))) run_S0x3 fr_S0x3 fh_S0x3 (exI_ok (@exB_ok S z)), _, _, by rfl, by rfl, pass_S0x3⟩
theorem go_T0x3 (hT : Tx D S) : Go1 S 2 zS0x3 zT0x3 := ⟨memoF 57 XT0x3 HT0x3 RT0x3 (exI exB), fun z => memoF_ok (K := KT (tabC 1) (t2C 1) (xlC 1)) (fun z => KT_ok hT (by decide) (tabC_ok hT (by decide))) run_T0x3 fr_T0x3 fh_T0x3 (exI_ok (@exB_ok S z)), _, _, by rfl, by rfl, pass_T0x3⟩
theorem go_S0x4 (hT : Tx D S) (hk : Cls (D.n 0) 4) : Go1 S 1 zS11 zS0x4 := ⟨memoF 57 XS0x4 HS0x4 RS0x4 (exI exB), fun z => memoF_ok (K := KT (tabC 0 ++ tabK 0 4) (t2C 0) (xlC 0)) (fun z => KT_ok hT (by decide) (mem_app (tabC_ok hT (by decide)) (tabK_ok hT (by decide) hk))) run_S0x4 fr_S0x4 fh_S0x4 (exI_ok (@exB_ok S z)), _, _, by rfl, by rfl, pass_S0x4⟩
theorem go_T0x4 (hT : Tx D S) : Go1 S 2 zS0x4 zT0x4 := ⟨memoF 57 XT0x4 HT0x4 RT0x4 (exI exB), fun z => memoF_ok (K := KT (tabC 1) (t2C 1) (xlC 1)) (fun z => KT_ok hT (by decide) (tabC_ok hT (by decide))) run_T0x4 fr_T0x4 fh_T0x4 (exI_ok (@exB_ok S z)), _, _, by rfl, by rfl, pass_T0x4⟩
theorem go_S1x0 (hT : Tx D S) (hk : Cls (D.n 1) 0) : Go1 S 2 zS11 zS1x0 := ⟨memoF 57 XS1x0 HS1x0 RS1x0 (exI exB), fun z => memoF_ok (K := KT (tabC 1 ++ tabK 1 0) (t2C 1) (xlC 1)) (fun z => KT_ok hT (by decide) (mem_app (tabC_ok hT (by decide)) (tabK_ok hT (by decide) hk))) run_S1x0 fr_S1x0 fh_S1x0 (exI_ok (@exB_ok S z)), _, _, by rfl, by rfl, pass_S1x0⟩
theorem go_T1x0 (hT : Tx D S) : Go1 S 1 zS1x0 zT1x0 := ⟨memoF 57 XT1x0 HT1x0 RT1x0 (exI exB), fun z => memoF_ok (K := KT (tabC 0) (t2C 0) (xlC 0)) (fun z => KT_ok hT (by decide) (tabC_ok hT (by decide))) run_T1x0 fr_T1x0 fh_T1x0 (exI_ok (@exB_ok S z)), _, _, by rfl, by rfl, pass_T1x0⟩
theorem go_S1x1 (hT : Tx D S) (hk : Cls (D.n 1) 1) : Go1 S 2 zS11 zS1x1 := ⟨memoF 57 XS1x1 HS1x1 RS1x1 (exI exB), fun z => memoF_ok (K := KT (tabC 1 ++ tabK 1 1) (t2C 1) (xlC 1)) (fun z => KT_ok hT (by decide) (mem_app (tabC_ok hT (by decide)) (tabK_ok hT (by decide) hk))) run_S1x1 fr_S1x1 fh_S1x1 (exI_ok (@exB_ok S z)), _, _, by rfl, by rfl, pass_S1x1⟩
theorem go_T1x1 (hT : Tx D S) : Go1 S 1 zS1x1 zT1x1 := ⟨memoF 57 XT1x1 HT1x1 RT1x1 (exI exB), fun z => memoF_ok (K := KT (tabC 0) (t2C 0) (xlC 0)) (fun z => KT_ok hT (by decide) (tabC_ok hT (by decide))) run_T1x1 fr_T1x1 fh_T1x1 (exI_ok (@exB_ok S z)), _, _, by rfl, by rfl, pass_T1x1⟩
theorem go_S1x2 (hT : Tx D S) (hk : Cls (D.n 1) 2) : Go1 S 2 zS11 zS1x2 := ⟨memoF 57 XS1x2 HS1x2 RS1x2 (exI exB), fun z => memoF_ok (K := KT (tabC 1 ++ tabK 1 2) (t2C 1) (xlC 1)) (fun z => KT_ok hT (by decide) (mem_app (tabC_ok hT (by decide)) (tabK_ok hT (by decide) hk))) run_S1x2 fr_S1x2 fh_S1x2 (exI_ok (@exB_ok S z)), _, _, by rfl, by rfl, pass_S1x2⟩
theorem go_T1x2 (hT : Tx D S) : Go1 S 1 zS1x2 zT1x2 := ⟨memoF 57 XT1x2 HT1x2 RT1x2 (exI exB), fun z => memoF_ok (K := KT (tabC 0) (t2C 0) (xlC 0)) (fun z => KT_ok hT (by decide) (tabC_ok hT (by decide))) run_T1x2 fr_T1x2 fh_T1x2 (exI_ok (@exB_ok S z)), _, _, by rfl, by rfl, pass_T1x2⟩
theorem go_S1x3 (hT : Tx D S) (hk : Cls (D.n 1) 3) : Go1 S 2 zS11 zS1x3 := ⟨memoF 57 XS1x3 HS1x3 RS1x3 (exI exB), fun z => memoF_ok (K := KT (tabC 1 ++ tabK 1 3) (t2C 1) (xlC 1)) (fun z => KT_ok hT (by decide) (mem_app (tabC_ok hT (by decide)) (tabK_ok hT (by decide) hk))) run_S1x3 fr_S1x3 fh_S1x3 (exI_ok (@exB_ok S z)), _, _, by rfl, by rfl, pass_S1x3⟩
theorem go_T1x3 (hT : Tx D S) : Go1 S 1 zS1x3 zT1x3 := ⟨memoF 57 XT1x3 HT1x3 RT1x3 (exI exB), fun z => memoF_ok (K := KT (tabC 0) (t2C 0) (xlC 0)) (fun z => KT_ok hT (by decide) (tabC_ok hT (by decide))) run_T1x3 fr_T1x3 fh_T1x3 (exI_ok (@exB_ok S z)), _, _, by rfl, by rfl, pass_T1x3⟩
theorem go_S1x4 (hT : Tx D S) (hk : Cls (D.n 1) 4) : Go1 S 2 zS11 zS1x4 := ⟨memoF 57 XS1x4 HS1x4 RS1x4 (exI exB), fun z => memoF_ok (K := KT (tabC 1 ++ tabK 1 4) (t2C 1) (xlC 1)) (fun z => KT_ok hT (by decide) (mem_app (tabC_ok hT (by decide)) (tabK_ok hT (by decide) hk))) run_S1x4 fr_S1x4 fh_S1x4 (exI_ok (@exB_ok S z)), _, _, by rfl, by rfl, pass_S1x4⟩
theorem go_T1x4 (hT : Tx D S) : Go1 S 1 zS1x4 zT1x4 := ⟨memoF 57 XT1x4 HT1x4 RT1x4 (exI exB), fun z => memoF_ok (K := KT (tabC 0) (t2C 0) (xlC 0)) (fun z => KT_ok hT (by decide) (tabC_ok hT (by decide))) run_T1x4 fr_T1x4 fh_T1x4 (exI_ok (@exB_ok S z)), _, _, by rfl, by rfl, pass_T1x4⟩
theorem goS0 (hT : Tx D S) : ∀ k, Cls (D.n 0) k → Go1 S 1 zS11 (zS 0 k)
 | 0, h => go_S0x0 hT h
 | 1, h => go_S0x1 hT h
 | 2, h => go_S0x2 hT h
 | 3, h => go_S0x3 hT h
 | 4, h => go_S0x4 hT h
 | k + 5, h => absurd h.1 (by omega)
theorem goT0 (hT : Tx D S) : ∀ k, k < 5 → Go1 S 2 (zS 0 k) (zT 0 k)
 | 0, _ => go_T0x0 hT
 | 1, _ => go_T0x1 hT
 | 2, _ => go_T0x2 hT
 | 3, _ => go_T0x3 hT
 | 4, _ => go_T0x4 hT
 | k + 5, h => absurd h (by omega)
theorem goS1 (hT : Tx D S) : ∀ k, Cls (D.n 1) k → Go1 S 2 zS11 (zS 1 k)
 | 0, h => go_S1x0 hT h
 | 1, h => go_S1x1 hT h
 | 2, h => go_S1x2 hT h
 | 3, h => go_S1x3 hT h
 | 4, h => go_S1x4 hT h
 | k + 5, h => absurd h.1 (by omega)
theorem goT1 (hT : Tx D S) : ∀ k, k < 5 → Go1 S 1 (zS 1 k) (zT 1 k)
 | 0, _ => go_T1x0 hT
 | 1, _ => go_T1x1 hT
 | 2, _ => go_T1x2 hT
 | 3, _ => go_T1x3 hT
 | 4, _ => go_T1x4 hT
 | k + 5, h => absurd h (by omega)
end
end Go.Ev
namespace Go.Ev
open Go Go.RowKit Go.Proofs
set_option maxRecDepth 1000000
/-- A loop: where; its head's state, by the names and letters of the state ahead; the state behind. -/
structure LoR where
 f : Nat
 p : List Bool
 s0 : St
 fl : List (Nat × Nat)
 g : List (Nat × A1)
 ol : List (Nat × AO)
 sX : St
 x : X
 flOut : List (Nat × Nat)
 dead : List Nat
def LoR.hit (r : LoR) (s : St) : Bool := Nat.ble s.h.n r.sX.h.n && chkSt r.fl r.g r.ol r.s0 s && backB r.fl r.flOut s.h.n r.s0.h.n r.dead
def loR (tab : List LoR) (f : Nat) (p : List Bool) (s : St) : Option (X × St) := match tab with
 | [] => none
 | r :: l => bif Nat.beq f r.f then (if p = r.p then (bif r.hit s then some (r.x, r.sX) else loR l f p s) else loR l f p s) else loR l f p s
def LoROk (S : Sy) (w0 : Base) (r : LoR) : Prop := ∀ s, r.hit s = true → ∀ c, AtWay Tryz.prog r.f r.p c → ∀ E a w, @AR S E s.A s.n a → @Rep S w0 E s.h w → c.wp Tryz.prog (@Post S w0 E r.x r.sX) a w
theorem loR_ok {S : Sy} {w0 : Base} : ∀ {tab : List LoR}, (∀ r ∈ tab, LoROk S w0 r) → @LoOk S Tryz.prog w0 (loR tab)
 | [], _ => fun f p s s' x h => by cases h
 | r :: l, ht => by
  have ih := loR_ok (tab := l) fun q hq => ht q (List.mem_cons_of_mem _ hq)
  intro f p s s' x h
  unfold loR at h
  cases hb : Nat.beq f r.f with
  | false =>
   rw [hb] at h
   exact ih f p s s' x h
  | true =>
   rw [hb, cond_true] at h
   split at h
   · rename_i hp
     cases hh : r.hit s with
     | false =>
      rw [hh] at h
      exact ih f p s s' x h
     | true =>
      rw [hh] at h
      cases h
      rw [Nat.eq_of_beq_eq_true hb, hp]
      exact ht r List.mem_cons_self s hh
   · exact ih f p s s' x h
/-! ### The picks' way through the states -/
/-- Whose step a pick is: 2: none's. -/
def dOf (p : Int) : Nat := if p < 0 then 2 else if p.tmod 3 = 1 then 0 else if p.tmod 3 = 2 then 1 else 2
def stq (q d : Nat) : Nat := match q, d with
 | 0, 0 => 1
 | 0, 1 => 2
 | 1, 1 => 3
 | 2, 0 => 4
 | q, _ => q
def runQ (ps : List Int) : Nat → Nat × Nat
 | 0 => (0, 0)
 | i + 1 => bif Nat.beq (stq (runQ ps i).1 (dOf (ps.getD i 0))) (runQ ps i).1 then runQ ps i else (stq (runQ ps i).1 (dOf (ps.getD i 0)), (runQ ps i).2 + 1)
theorem stq_lt {q d : Nat} (h : q < 5) : stq q d < 5 := by
 unfold stq
 split <;> first | decide | exact h
theorem runQ_ok (ps : List Int) : ∀ i, (runQ ps i).1 < 5 ∧ (runQ ps i).2 ≤ i
 | 0 => ⟨(by show 0 < 5; decide), Nat.le_refl _⟩
 | i + 1 => by
  have ih := runQ_ok ps i
  unfold runQ
  cases Nat.beq (stq (runQ ps i).1 (dOf (ps.getD i 0))) (runQ ps i).1
  · exact ⟨stq_lt ih.1, Nat.succ_le_succ ih.2⟩
  · exact ⟨ih.1, Nat.le_succ_of_le ih.2⟩
theorem runQ_same {ps : List Int} {i : Nat} (h : stq (runQ ps i).1 (dOf (ps.getD i 0)) = (runQ ps i).1) : runQ ps (i + 1) = runQ ps i := by
 show (bif _ then _ else _) = _
 rw [h, Nat.beq_refl, cond_true]
theorem runQ_go {ps : List Int} {i q : Nat} (h : stq (runQ ps i).1 (dOf (ps.getD i 0)) = q) (hq : Nat.beq q (runQ ps i).1 = false) : runQ ps (i + 1) = (q, (runQ ps i).2 + 1) := by
 show (bif _ then _ else _) = _
 rw [h, hq, cond_false]
section
variable [CV] {D : Da} {ps : List Int} {w0 : Base} {ka kb : Nat}
abbrev famT (D : Da) (ps : List Int) (i : Nat) : Sy := syT D ps i (runQ ps i).2
noncomputable abbrev stT (ps : List Int) (ka kb i : Nat) : St := zq ka kb (runQ ps i).1
theorem run_pass (ho : OrdOk w0 ps) (hl : ps.length ≤ 10) (ha5 : Cls (D.n 0) ka) (hb5 : Cls (D.n 1) kb) {i : Nat} (hi : i < ps.length) {b : Code} (hb : AtWay Tryz.prog 17 (false :: false :: way17) b) {E : List Ent} {a : Act} {w : World} (ha : @AR (famT D ps i) E (stT ps ka kb i).A (stT ps ka kb i).n a) (hr : @Rep (famT D ps i) w0 E (stT ps ka kb i).h w) :
  b.wp Tryz.prog (fun e a' w' => e = .normal ∧ ∃ E', Keeps 814 [] E E' ∧ @AR (famT D ps (i + 1)) E' (stT ps ka kb (i + 1)).A (stT ps ka kb (i + 1)).n a' ∧ @Rep (famT D ps (i + 1)) w0 E' (stT ps ka kb (i + 1)).h w') a w := by
 obtain ⟨hq, hn⟩ := runQ_ok ps i
 have hpk : @RuOk (famT D ps i) Tryz.prog w0 ruPk := ruPk_ok hi ho
 have hka := ha5.1
 have hkb := hb5.1
 have hx : (26 = 26 ∧ i + 1 = i + 1) ∨ (26 = 23 ∧ i + 1 = i) := .inl ⟨rfl, rfl⟩
 have stay : ∀ K, Pass .normal K (stT ps ka kb i) (stT ps ka kb i) 26 27 → @HkOk (famT D ps i) Tryz.prog w0 K → stq (runQ ps i).1 (dOf (ps.getD i 0)) = (runQ ps i).1 → b.wp Tryz.prog (fun e a' w' => e = .normal ∧ ∃ E', Keeps 814 [] E E' ∧ @AR (famT D ps (i + 1)) E' (stT ps ka kb (i + 1)).A (stT ps ka kb (i + 1)).n a' ∧ @Rep (famT D ps (i + 1)) w0 E' (stT ps ka kb (i + 1)).h w') a w := by
  intro K hp hK hst
  have h1 := pass_gen hp hK (ok_q _ _ _ hq hka hkb) (ok_q _ _ _ hq hka hkb) hx (.inl ⟨rfl, rfl⟩) hb ha hr
  unfold famT stT
  rw [runQ_same hst]
  exact h1
 have go : ∀ (t q : Nat) s', Go1 (famT D ps i) t (stT ps ka kb i) s' → s' = zq ka kb q → (∀ e ∈ tabI2 t, @RlOk (famT D ps i) Tryz.prog e) → stq (runQ ps i).1 (dOf (ps.getD i 0)) = q → Nat.beq q (runQ ps i).1 = false → b.wp Tryz.prog (fun e a' w' => e = .normal ∧ ∃ E', Keeps 814 [] E E' ∧ @AR (famT D ps (i + 1)) E' (stT ps ka kb (i + 1)).A (stT ps ka kb (i + 1)).n a' ∧ @Rep (famT D ps (i + 1)) w0 E' (stT ps ka kb (i + 1)).h w') a w := by
  intro t q s' hg hs ht hst hne
  subst hs
  obtain ⟨ex, hex, hp⟩ := hg
  have hq' : q < 5 := by rw [← hst]; exact stq_lt hq
  have h1 := pass_gen hp (KP_ok hpk (fun e he => (List.mem_cons.1 he).elim (fun h => by rw [h]; exact addN_ok (by omega)) (ht e)) (hex w0)) (ok_q _ _ _ hq hka hkb) (ok_q _ _ _ hq' hka hkb) hx (.inr ⟨rfl, rfl⟩) hb ha hr
  unfold famT stT
  rw [runQ_go hst hne]
  exact h1
 have hex : ∀ d, d < 2 → @CallOk (famT D ps i) Tryz.prog w0 (exT (xlN d) (exI exB)) := fun d hd => @exT_ok (famT D ps i) w0 Tryz.prog _ _ (xlN_ok txT hd) (exI_ok (@exB_ok (famT D ps i) w0))
 by_cases hp : ps.getD i 0 < 0
 · have hd : dOf (ps.getD i 0) = 2 := by unfold dOf; rw [if_pos hp]
   refine stay _ (neg_q _ _ _ hq hka hkb) (KP_ok hpk (tabI1_ok hi hl (by rw [decide_eq_true_eq]; exact hp)) (exI_ok (@exB_ok (famT D ps i) w0))) ?_
   rw [hd]
   unfold stq
   split <;> first | rfl | omega
 · have h0 : 0 ≤ (ps.getD i 0).tmod 3 := Int.tmod_nonneg 3 (by omega)
   have h3 : (ps.getD i 0).tmod 3 < 3 := Int.tmod_lt_of_pos _ (by decide)
   have hd : dOf (ps.getD i 0) = if (ps.getD i 0).tmod 3 = 1 then 0 else if (ps.getD i 0).tmod 3 = 2 then 1 else 2 := by unfold dOf; rw [if_neg hp]
   rcases (by omega : (ps.getD i 0).tmod 3 = 0 ∨ (ps.getD i 0).tmod 3 = 1 ∨ (ps.getD i 0).tmod 3 = 2) with hm | hm | hm
   · rw [hm] at hd
     refine stay _ (no0_q _ _ _ hq hka hkb) (KP_ok hpk (tabI2_ok hi hl hp hm) (exI_ok (@exB_ok (famT D ps i) w0))) ?_
     rw [hd]
     simp only [show ¬ ((0 : Int) = 1) from by decide, show ¬ ((0 : Int) = 2) from by decide, if_false]
     unfold stq
     split <;> first | rfl | omega
   · rw [hm, if_pos rfl] at hd
     have no : (runQ ps i).1 = 1 ∨ (runQ ps i).1 = 3 ∨ (runQ ps i).1 = 4 → _ := fun hc => stay _ (no1_q _ _ _ hq hka hkb hc) (KP_ok hpk (mem_app (tabI2_ok hi hl hp hm) (tabN_ok txT (by decide))) (hex 0 (by decide))) (by
      rw [hd]
      rcases hc with h | h | h <;> rw [h] <;> rfl)
     rcases (by omega : (runQ ps i).1 = 0 ∨ (runQ ps i).1 = 2 ∨ ((runQ ps i).1 = 1 ∨ (runQ ps i).1 = 3 ∨ (runQ ps i).1 = 4)) with h | h | h
     · refine go 1 1 _ ?_ rfl (tabI2_ok hi hl hp hm) (by rw [hd, h]; rfl) (by rw [h]; rfl)
       unfold stT
       rw [h]
       exact goS0 txT ka ha5
     · refine go 1 4 _ ?_ rfl (tabI2_ok hi hl hp hm) (by rw [hd, h]; rfl) (by rw [h]; rfl)
       unfold stT
       rw [h]
       exact goT1 txT kb hkb
     · exact no h
   · rw [hm, if_neg (by decide), if_pos rfl] at hd
     have no : (runQ ps i).1 = 2 ∨ (runQ ps i).1 = 3 ∨ (runQ ps i).1 = 4 → _ := fun hc => stay _ (no2_q _ _ _ hq hka hkb hc) (KP_ok hpk (mem_app (tabI2_ok hi hl hp hm) (tabN_ok txT (by decide))) (hex 1 (by decide))) (by
      rw [hd]
      rcases hc with h | h | h <;> rw [h] <;> rfl)
     rcases (by omega : (runQ ps i).1 = 0 ∨ (runQ ps i).1 = 1 ∨ ((runQ ps i).1 = 2 ∨ (runQ ps i).1 = 3 ∨ (runQ ps i).1 = 4)) with h | h | h
     · refine go 2 2 _ ?_ rfl (tabI2_ok hi hl hp hm) (by rw [hd, h]; rfl) (by rw [h]; rfl)
       unfold stT
       rw [h]
       exact goS1 txT kb hb5
     · refine go 2 3 _ ?_ rfl (tabI2_ok hi hl hp hm) (by rw [hd, h]; rfl) (by rw [h]; rfl)
       unfold stT
       rw [h]
       exact goT0 txT ka hka
     · exact no h
theorem run_last (ha5 : Cls (D.n 0) ka) (hb5 : Cls (D.n 1) kb) {b : Code} (hb : AtWay Tryz.prog 17 (false :: false :: way17) b) {E : List Ent} {a : Act} {w : World} (ha : @AR (famT D ps ps.length) E (stT ps ka kb ps.length).A (stT ps ka kb ps.length).n a) (hr : @Rep (famT D ps ps.length) w0 E (stT ps ka kb ps.length).h w) :
  b.wp Tryz.prog (fun e a' w' => e = toExit (.exit 0) ∧ ∃ E', Keeps 814 [] E E' ∧ @AR (famT D ps ps.length) E' (stT ps ka kb ps.length).A (stT ps ka kb ps.length).n a' ∧ @Rep (famT D ps ps.length) w0 E' (stT ps ka kb ps.length).h w') a w := by
 obtain ⟨hq, hn⟩ := runQ_ok ps ps.length
 exact pass_gen (end_q _ _ _ hq ha5.1 hb5.1) (KP0_ok (tabI0_ok (by simp))) (ok_q _ _ _ hq ha5.1 hb5.1) (ok_q _ _ _ hq ha5.1 hb5.1) (.inr ⟨rfl, rfl⟩) (.inl ⟨rfl, rfl⟩) hb ha hr
end
end Go.Ev
