/- Laid by a program of this session: what the Go functions answer, as Lean functions, and the walks that prove it; no condition beyond what each statement names. -/
import Derived.Test.YtefalfheeofhhaaQRx0
namespace Go.Proofs.Ytefalfheeofhhaa.QR
open Go.RowKit Go.Proofs.YtefalfheeofhhaaW.PrintWords Go.Proofs.YtefalfheeofhhaaW.PrintLast Go.Proofs.YtefalfheeofhhaaW.PrintMore
attribute [local go_sem] max2_int min2_int max_two min_two max_three min_three max_four min_four   -- for this text's walks alone
set_option linter.unusedVariables false
set_option linter.unusedSimpArgs false
/-! ### cellaretref4_Low: function 57 -/
def cellaretref4_Low.l0 : Nat → Int → Int → ByteArray → Int → Option (ByteArray)
 | 0, _, _, _, _ => none
 | k + 1, x0, x1, x5, x6 => if x6 < x1 then (if 0 ≤ (IntKind.u64.wrap (wrap64 (8 * x6))) then ((some (([(shr .u64 x0 (IntKind.u64.wrap (wrap64 (8 * x6)))) % 256] : List Int) : List Int)).bind fun y307 => (if x5.size + (strOfNums y307).size ≤ 9223372036854775807 then (cellaretref4_Low.l0 k x0 x1 (x5 ++ (strOfNums y307)) (wrap64 (x6 + 1))) else (none))) else (none)) else (some x5)
def cellaretref4_Low.f (k : Nat) (a0 : Int) (a1 : Int) : Option (ByteArray) := cellaretref4_Low.l0 k a0 a1 (⟨#[]⟩ : ByteArray) 0
theorem cellaretref4_Low.mono_l : ∀ k, (∀ y0 y1 y2 y3, LeO (cellaretref4_Low.l0 k y0 y1 y2 y3) (cellaretref4_Low.l0 (k + 1) y0 y1 y2 y3))
 | 0 => fun _ _ _ _ r h => by simp [cellaretref4_Low.l0] at h
 | k + 1 => by
  have ih0 := cellaretref4_Low.mono_l k
  ·intro y0 y1 y2 y3; unfold cellaretref4_Low.l0
   repeat' first
   | (with_reducible exact ih0 _ _ _ _)
   | (with_reducible exact LeO.refl _)
   | (with_reducible exact LeO.none _)
   | (with_reducible refine LeO.ite ?_ ?_)
   | (with_reducible refine LeO.bind ?_ (fun _ => ?_))
   | exact ih0 _ _ _ _
   | exact LeO.none _
   | refine LeO.ite ?_ ?_
   | refine LeO.bind ?_ (fun _ => ?_)
theorem cellaretref4_Low.mono : ∀ a0 a1 k, LeO (cellaretref4_Low.f k a0 a1) (cellaretref4_Low.f (k + 1) a0 a1) := by
 intro a0 a1 k; have ih0 := cellaretref4_Low.mono_l k; unfold cellaretref4_Low.f
 repeat' first
   | (with_reducible exact ih0 _ _ _ _)
   | (with_reducible exact LeO.refl _)
   | (with_reducible exact LeO.none _)
   | (with_reducible refine LeO.ite ?_ ?_)
   | (with_reducible refine LeO.bind ?_ (fun _ => ?_))
   | exact ih0 _ _ _ _
   | exact LeO.none _
   | refine LeO.ite ?_ ?_
   | refine LeO.bind ?_ (fun _ => ?_)
set_option maxHeartbeats 8000000 in
set_option maxRecDepth 100000 in
theorem cellaretref4_Low.calls (k : Nat) (a0 : Int) (a1 : Int) (r : ByteArray) (w : World) (h : cellaretref4_Low.f k a0 a1 = some r) :
  Calls Try.prog 57 #[.int .u64 a0, .int .i64 a1] w fun e w' => e = .returned (.string r) ∧ Below w.heap.size w w' := by
 have HB := Aside0.mk (Below.refl w.heap.size w); have H : (cellaretref4_Low.l0 k a0 a1 (⟨#[]⟩ : ByteArray) 0) = some r := h; clear h; have H' := Aside0.mk H; clear H; (go_enter Try.func57, Try.ntmps57); (go_wp2); go_loopg [5, 6] k (fun kq v5 v6 w' => ∃ (x5_1 : ByteArray) (x6_1 : Int), v5 = .string x5_1 ∧ v6 = .int .i64 x6_1 ∧ Aside0 (cellaretref4_Low.l0 kq a0 a1 x5_1 x6_1 = some r) ∧ Aside0 (kq ≤ k) ∧ Aside0 (Below w.heap.size w w'))
 case atStart => exact ⟨((⟨#[]⟩ : ByteArray)), (0), (by first | rfl | (simp; done) | (simp [*]; done)), (by first | rfl | (simp; done) | (simp [*]; done)), H', ⟨Nat.le_refl _⟩, ⟨by repeat (first | (with_reducible first | exact HB.out | apply below_alloc | apply pw_below_drewN | apply below_drew1) | exact HB.out)⟩⟩
 case round =>
  clear H'; (try clear p2); obtain ⟨x5_1, x6_1, rfl, rfl, HA, HK1, HB⟩ := hrel
  cases gk with
  | zero => exact absurd HA.out (by simp [cellaretref4_Low.l0])
  | succ k1 =>
   have H := HA.out; clear HA; simp only [cellaretref4_Low.l0] at H; by_cases c3 : x6_1 < a1
   ·rw [if_pos c3] at H; have c3b0 : decide (x6_1 < a1) = true := decide_eq_true c3; clear c3; obtain ⟨ji4, hji4⟩ : ∃ j_ : Int, (IntKind.u64.wrap (wrap64 (8 * x6_1))) = j_ := ⟨_, rfl⟩; (replace H : (if 0 ≤ (ji4) then ((some (([(shr .u64 a0 (ji4)) % 256] : List Int) : List Int)).bind fun y307 => (if x5_1.size + (strOfNums y307).size ≤ 9223372036854775807 then (cellaretref4_Low.l0 k1 a0 a1 (x5_1 ++ (strOfNums y307)) (wrap64 (x6_1 + 1))) else (none))) else (none)) = some r := by first | (rw [hji4] at H; exact H) | (simp only [hji4] at H ⊢; exact H)); by_cases c5 : 0 ≤ (ji4)
    ·rw [if_pos c5] at H; have c5b0 := eq_true c5; have c5b1 : decide (0 ≤ (ji4)) = true := decide_eq_true c5; clear c5; obtain ⟨ji6, hji6⟩ : ∃ j_ : Int, (shr .u64 a0 (ji4)) = j_ := ⟨_, rfl⟩; (replace H : ((some (([(ji6) % 256] : List Int) : List Int)).bind fun y307 => (if x5_1.size + (strOfNums y307).size ≤ 9223372036854775807 then (cellaretref4_Low.l0 k1 a0 a1 (x5_1 ++ (strOfNums y307)) (wrap64 (x6_1 + 1))) else (none))) = some r := by first | (rw [hji6] at H; exact H) | (simp only [hji6] at H ⊢; exact H)); have hji6_ : (a0 / 2 ^ min (ji4).toNat 64) = ji6 := hji6; have hji6z : (ji4) ≤ 64 → (a0 / 2 ^ (ji4).toNat) = ji6 := shr_small hji6; obtain ⟨y307, hy307⟩ : ∃ y_ : List Int, y_ = (([(ji6) % 256] : List Int)) := ⟨_, rfl⟩; (replace H : (if x5_1.size + (strOfNums y307).size ≤ 9223372036854775807 then (cellaretref4_Low.l0 k1 a0 a1 (x5_1 ++ (strOfNums y307)) (wrap64 (x6_1 + 1))) else (none)) = some r := by first | (rw [hy307]; with_reducible exact H) | (have H2_ := (Option.bind_some _ _).symm.trans H; rw [hy307]; with_reducible exact H2_) | (have H2_ := (Option.bind_some _ _).symm.trans H; with_reducible exact H2_) | with_reducible exact H | (rw [hy307]; exact H) | exact H); have Ny307 := Aside0.mk hy307; clear hy307; by_cases c7 : x5_1.size + (strOfNums y307).size ≤ 9223372036854775807
     ·rw [if_pos c7] at H; have c7b0 := eq_true c7; have c7b1 : decide (x5_1.size + (strOfNums y307).size ≤ 9223372036854775807) = true := decide_eq_true c7; (try have c7b2 : (9223372036854775807 < x5_1.size + (strOfNums y307).size) = False := eq_false (Nat.not_lt.2 c7)); clear c7; have H' := Aside0.mk H; clear H; (go_wp2_with (first | ((with_reducible refine gate_dst (N := 19) rfl ?_); refine Kd.R_lit (Kd.int .u8) _ 5 ?hg (N := 19) ?hd (xs := ([(ji6) % 256] : List Int)) (inner := [.int .u8 ((ji6) % 256)]) (ok := fun _ => True) (okp := fun _ => True) ?hr ?hp (fun _ hk => hk) trivial (Below.refl _ _) (Nat.le_refl _) (by simp) ?_; (case hd => rfl); (case hg => rfl); (case hr => first | (go_simp; done) | (go_simp; rfl)); (case hp => exact (Reps.one (show Kd.M (Kd.int .u8) _ _ _ ((ji6) % 256) [.int .u8 ((ji6) % 256)] from rfl) (Reps.none _ _))); intro v308 w8 ho9 hb hg_ hnew_; clear hg_ hnew_; (first | rw [← Ny307.out] at ho9 | (simp only [Int.reduceToNat] at ho9; rw [← Ny307.out] at ho9)); have n0_ := Aside0.mk (Kd.R_lower ho9 (below_size (by repeat (first | (with_reducible first | exact HB.out | apply below_alloc | apply pw_below_drewN | apply below_drew1) | exact HB.out)))); have n1_ := Aside0.mk (below_step (by repeat (first | (with_reducible first | exact HB.out | apply below_alloc | apply pw_below_drewN | apply below_drew1) | exact HB.out)) hb); clear HB; have HO309 := n0_; have HB := n1_; clear n0_ n1_; clear hb ho9; have hcv10 := own_string (P := Try.prog) Try.underlying28 Try.underlying5 Try.underlying9 (Kd.own_of_R HO309.out)))); go_roundg k1
      case measure => have := HK1.out; omega
      case rel => exact ⟨(x5_1 ++ (strOfNums y307)), (wrap64 (x6_1 + 1)), (by first | rfl | (simp; done) | (simp [*]; done)), (by first | rfl | (simp; done) | (simp [*]; done)), H', ⟨by have := HK1.out; omega⟩, ⟨by repeat (first | (with_reducible first | exact HB.out | apply below_alloc | apply pw_below_drewN | apply below_drew1) | exact HB.out)⟩⟩
     ·rw [if_neg c7] at H; exact absurd H (by simp)
    ·rw [if_neg c5] at H; exact absurd H (by simp)
   ·rw [if_neg c3] at H; have c3b0 : decide (x6_1 < a1) = false := decide_eq_false c3; clear c3; obtain rfl := Option.some.inj H; (go_wp2); (go_ret); exact ⟨by first | rfl | (simp [errW_none, errW_some] <;> rfl) | (simp [*, errW_none, errW_some] <;> rfl), by repeat (first | (with_reducible first | exact HB.out | apply below_alloc | apply pw_below_drewN | apply below_drew1) | exact HB.out)⟩
end Go.Proofs.Ytefalfheeofhhaa.QR
