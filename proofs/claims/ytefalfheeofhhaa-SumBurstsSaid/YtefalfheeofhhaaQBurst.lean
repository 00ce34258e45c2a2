/- Laid by a program of this session: what the Go functions answer, as Lean functions, and the walks that prove it; no condition beyond what each statement names. -/
import Derived.Test.YtefalfheeofhhaaQSx0
import Derived.Test.YtefalfheeofhhaaXArr
import Derived.Test.YtefalfheeofhhaaQSx1
namespace Go.Proofs.Ytefalfheeofhhaa.QS
open Go.RowKit Go.Proofs.YtefalfheeofhhaaW.PrintWords Go.Proofs.YtefalfheeofhhaaW.PrintLast Go.Proofs.YtefalfheeofhhaaW.PrintMore
attribute [local go_sem] max2_int min2_int max_two min_two max_three min_three max_four min_four   -- for this text's walks alone
set_option linter.unusedVariables false
set_option linter.unusedSimpArgs false

attribute [local go_sem high] XArr.eqA35
/-! ### cellaretlaw1_SumBursts: function 9 -/
mutual
def cellaretlaw1_SumBursts.j0 : Nat → List Int → Int → List Int → Bool → Option (Bool)
 | 0, _, _, _, _ => none
 | k + 1, x0, x1, x2, x29 => if x29 = true then (some true) else ((some (([] : List Int) : List Int)).bind fun y122 => (if y122.length + x0.length < 140737488355328 then (cellaretlaw1_SumBursts.l0 k x0 x1 x2 (y122 ++ x0) 0) else (none)))
def cellaretlaw1_SumBursts.l0 : Nat → List Int → Int → List Int → List Int → Int → Option (Bool)
 | 0, _, _, _, _, _ => none
 | k + 1, x0, x1, x2, x7, x8 => if x8 < 4 then (if 0 ≤ (wrap64 (x1 + x8)) then (if (wrap64 (x1 + x8)) < (x7.length : Int) then (if 0 ≤ x8 then (cellaretlaw1_SumBursts.l0 k x0 x1 x2 (x7.set ((wrap64 (x1 + x8)) : Int).toNat (Go.bits .xor .u8 (rd x7 (wrap64 (x1 + x8))) (rd x2 x8))) (wrap64 (x8 + 1))) else (none)) else (none)) else (none)) else ((sum_Crc.f k x7).bind fun t131 => ((sum_Crc.f k x0).bind fun t132 => (some (t131 != t132))))
end
def cellaretlaw1_SumBursts.f (k : Nat) (l0 : List Int) (a1 : Int) (a2_0 : Int) (a2_1 : Int) (a2_2 : Int) (a2_3 : Int) : Option (Bool) := (cellaretlaw1_awake.f k).bind fun t121 => (if t121 = true then (if (l0.length : Int) > 3000 then (cellaretlaw1_SumBursts.j0 k l0 a1 [a2_0, a2_1, a2_2, a2_3] true) else (if a1 < 0 then (cellaretlaw1_SumBursts.j0 k l0 a1 [a2_0, a2_1, a2_2, a2_3] true) else (if a1 > (wrap64 ((l0.length : Int) - 4)) then (cellaretlaw1_SumBursts.j0 k l0 a1 [a2_0, a2_1, a2_2, a2_3] true) else (cellaretlaw1_SumBursts.j0 k l0 a1 [a2_0, a2_1, a2_2, a2_3] (a2_0 == 0 && (a2_1 == 0 && (a2_2 == 0 && (a2_3 == 0)))))))) else (some false))
theorem cellaretlaw1_SumBursts.mono_l : ∀ k, (∀ y0 y1 y2 y3, LeO (cellaretlaw1_SumBursts.j0 k y0 y1 y2 y3) (cellaretlaw1_SumBursts.j0 (k + 1) y0 y1 y2 y3)) ∧ (∀ y0 y1 y2 y3 y4, LeO (cellaretlaw1_SumBursts.l0 k y0 y1 y2 y3 y4) (cellaretlaw1_SumBursts.l0 (k + 1) y0 y1 y2 y3 y4))
 | 0 => ⟨fun _ _ _ _ r h => by simp [cellaretlaw1_SumBursts.j0] at h, fun _ _ _ _ _ r h => by simp [cellaretlaw1_SumBursts.l0] at h⟩
 | k + 1 => by
  obtain ⟨ih0, ih1⟩ := cellaretlaw1_SumBursts.mono_l k
  refine ⟨?_, ?_⟩
  ·intro y0 y1 y2 y3
   unfold cellaretlaw1_SumBursts.j0
   repeat' first
   | (with_reducible exact ih0 _ _ _ _)
   | (with_reducible exact ih1 _ _ _ _ _)
   | (with_reducible exact cellaretlaw1_awake.mono _)
   | (with_reducible exact sum_Crc.mono _ _)
   | (with_reducible exact LeO.refl _)
   | (with_reducible exact LeO.none _)
   | (with_reducible refine LeO.ite ?_ ?_)
   | (with_reducible refine LeO.bind ?_ (fun _ => ?_))
   | exact ih0 _ _ _ _
   | exact ih1 _ _ _ _ _
   | exact cellaretlaw1_awake.mono _
   | exact sum_Crc.mono _ _
   | exact LeO.none _
   | refine LeO.ite ?_ ?_
   | refine LeO.bind ?_ (fun _ => ?_)
  ·intro y0 y1 y2 y3 y4
   unfold cellaretlaw1_SumBursts.l0
   repeat' first
   | (with_reducible exact ih0 _ _ _ _)
   | (with_reducible exact ih1 _ _ _ _ _)
   | (with_reducible exact cellaretlaw1_awake.mono _)
   | (with_reducible exact sum_Crc.mono _ _)
   | (with_reducible exact LeO.refl _)
   | (with_reducible exact LeO.none _)
   | (with_reducible refine LeO.ite ?_ ?_)
   | (with_reducible refine LeO.bind ?_ (fun _ => ?_))
   | exact ih0 _ _ _ _
   | exact ih1 _ _ _ _ _
   | exact cellaretlaw1_awake.mono _
   | exact sum_Crc.mono _ _
   | exact LeO.none _
   | refine LeO.ite ?_ ?_
   | refine LeO.bind ?_ (fun _ => ?_)
theorem cellaretlaw1_SumBursts.mono : ∀ a0 a1 a2 a3 a4 a5 k, LeO (cellaretlaw1_SumBursts.f k a0 a1 a2 a3 a4 a5) (cellaretlaw1_SumBursts.f (k + 1) a0 a1 a2 a3 a4 a5) := by
 intro a0 a1 a2 a3 a4 a5 k
 obtain ⟨ih0, ih1⟩ := cellaretlaw1_SumBursts.mono_l k
 unfold cellaretlaw1_SumBursts.f
 repeat' first
   | (with_reducible exact ih0 _ _ _ _)
   | (with_reducible exact ih1 _ _ _ _ _)
   | (with_reducible exact cellaretlaw1_awake.mono _)
   | (with_reducible exact sum_Crc.mono _ _)
   | (with_reducible exact LeO.refl _)
   | (with_reducible exact LeO.none _)
   | (with_reducible refine LeO.ite ?_ ?_)
   | (with_reducible refine LeO.bind ?_ (fun _ => ?_))
   | exact ih0 _ _ _ _
   | exact ih1 _ _ _ _ _
   | exact cellaretlaw1_awake.mono _
   | exact sum_Crc.mono _ _
   | exact LeO.none _
   | refine LeO.ite ?_ ?_
   | refine LeO.bind ?_ (fun _ => ?_)
def cellaretlaw1_SumBursts.T9 : Bool × List (List Nat × List Nat) := (true, [([], []), ([], []), ([], []), ([1, 2], [1, 2]), ([], []), ([], []), ([], []), ([5, 6], [5, 6]), ([4, 7], [4, 7]), ([8], [8]), ([], []), ([10], [10]), ([11], [11]), ([9, 12], [9, 12]), ([0, 3, 0, 1, 2, 3, 4, 5, 6, 7, 8, 9, 10, 11, 12, 13], [0, 3]), ([14, 13, 0, 1, 2, 3, 4, 5, 6, 7, 8, 9, 10, 11, 12, 13], [13, 14])])
def cellaretlaw1_SumBursts.B9 : List Nat := [0, 0, 0, 6, 0, 0, 0, 96, 240, 496, 0, 1024, 3072, 8176, 16383, 32767]
theorem cellaretlaw1_SumBursts.tab9 : rtab .any (opsOf Try.f9 9) = cellaretlaw1_SumBursts.T9 := by kernel_rfl
theorem cellaretlaw1_SumBursts.bits9 : waitsOk cellaretlaw1_SumBursts.T9.2 cellaretlaw1_SumBursts.B9 = true := by kernel_rfl
set_option maxHeartbeats 8000000 in
set_option maxRecDepth 100000 in
theorem cellaretlaw1_SumBursts.calls (k : Nat) (A0 : Option Addr) (c0 : Nat) (l0 : List Int) (a1 : Int) (a2_0 : Int) (a2_1 : Int) (a2_2 : Int) (a2_3 : Int) (r : Bool) (w : World) (hr0 : Kd.C (Kd.int .u8) w A0 l0.length l0) (hc0 : l0.length ≤ c0) (h : cellaretlaw1_SumBursts.f k l0 a1 a2_0 a2_1 a2_2 a2_3 = some r) :
  Calls Try.prog 9 #[.slice A0 l0.length c0, .int .i64 a1, .agg #[.int .u8 a2_0, .int .u8 a2_1, .int .u8 a2_2, .int .u8 a2_3]] w fun e w' => e = .returned (.bool r) ∧ Below w.heap.size w w' := by
 have hu35 := Try.underlying35
 have HR0 := Aside0.mk hr0
 have HC0 := Aside0.mk hc0
 clear hr0 hc0
 have HB := Aside0.mk (Below.refl w.heap.size w)
 have H : ((cellaretlaw1_awake.f k).bind fun t122 => (if t122 = true then (if (l0.length : Int) > 3000 then (cellaretlaw1_SumBursts.j0 k l0 a1 [a2_0, a2_1, a2_2, a2_3] true) else (if a1 < 0 then (cellaretlaw1_SumBursts.j0 k l0 a1 [a2_0, a2_1, a2_2, a2_3] true) else (if a1 > (wrap64 ((l0.length : Int) - 4)) then (cellaretlaw1_SumBursts.j0 k l0 a1 [a2_0, a2_1, a2_2, a2_3] true) else (cellaretlaw1_SumBursts.j0 k l0 a1 [a2_0, a2_1, a2_2, a2_3] (a2_0 == 0 && (a2_1 == 0 && (a2_2 == 0 && (a2_3 == 0)))))))) else (some false))) = some r := h
 clear h
 replace H := Option.bind_eq_some_iff.mp H
 obtain ⟨t122, A40, H⟩ := H
 replace H : (if t122 = true then (if (l0.length : Int) > 3000 then (cellaretlaw1_SumBursts.j0 k l0 a1 [a2_0, a2_1, a2_2, a2_3] true) else (if a1 < 0 then (cellaretlaw1_SumBursts.j0 k l0 a1 [a2_0, a2_1, a2_2, a2_3] true) else (if a1 > (wrap64 ((l0.length : Int) - 4)) then (cellaretlaw1_SumBursts.j0 k l0 a1 [a2_0, a2_1, a2_2, a2_3] true) else (cellaretlaw1_SumBursts.j0 k l0 a1 [a2_0, a2_1, a2_2, a2_3] (a2_0 == 0 && (a2_1 == 0 && (a2_2 == 0 && (a2_3 == 0)))))))) else (some false)) = some r := H
 have A4 := Aside0.mk A40
 clear A40
 by_cases c5 : t122 = true
 ·subst c5
  have H1 : (if (l0.length : Int) > 3000 then (cellaretlaw1_SumBursts.j0 k l0 a1 [a2_0, a2_1, a2_2, a2_3] true) else (if a1 < 0 then (cellaretlaw1_SumBursts.j0 k l0 a1 [a2_0, a2_1, a2_2, a2_3] true) else (if a1 > (wrap64 ((l0.length : Int) - 4)) then (cellaretlaw1_SumBursts.j0 k l0 a1 [a2_0, a2_1, a2_2, a2_3] true) else (cellaretlaw1_SumBursts.j0 k l0 a1 [a2_0, a2_1, a2_2, a2_3] (a2_0 == 0 && (a2_1 == 0 && (a2_2 == 0 && (a2_3 == 0)))))))) = some r := by rw [if_pos rfl] at H; exact H
  clear H
  have H := H1
  clear H1
  have HC6 := Aside0.mk H
  clear H
  go_enter Try.func9, Try.ntmps9
  go_upto_region 3 with (first | ((with_reducible refine gate_dst (N := 5) rfl ?_); (try (refine gate_guard (by rfl) ?_; dsimp only)); refine box_event ?hg (N := 5) ?hd (cs := #[.int .u8 a2_0, .int .u8 a2_1, .int .u8 a2_2, .int .u8 a2_3]) (t := 35) ?hr ?_; (case hd => rfl); (case hg => rfl); (case hr => first | (go_simp; done) | (go_simp; rfl)); intro gb121 hg w7 hbox hb; have n0_ := Aside0.mk (below_step (by repeat (first | (with_reducible first | exact HB.out | apply below_alloc | apply pw_below_drewN | apply below_drew1) | exact HB.out)) hb); have n1_ := Aside0.mk (hbox); have n2_ := Aside0.mk ((by rw [hg]; exact (below_size (by repeat (first | (with_reducible first | exact HB.out | apply below_alloc | apply pw_below_drewN | apply below_drew1) | exact HB.out))) : w.heap.size ≤ gb121)); have n3_ := Aside0.mk ((by rw [hg]; exact (below_size (by repeat (first | (with_reducible first | exact HB.out | apply below_alloc | apply pw_below_drewN | apply below_drew1) | exact HB.out))) : w.heap.size ≤ gb121)); clear HB; have HB := n0_; have BK121 := n1_; have GW121 := n2_; have GE121 := n3_; clear n0_ n1_ n2_ n3_; clear hb hbox hg) | ((with_reducible refine gate_callee (f := 21) rfl ?_); refine goesL_ (some 9) rfl rfl Try.func21 (by kernel_rfl) rfl #[] rfl (by (try simp only [List.map_toArray, List.map_cons, List.map_nil]); first | done | rfl | (simp only [List.length_drop, List.length_take]; rfl) | (go_simp; done) | (go_simp; rfl)) ?_; (with_reducible refine (cellaretlaw1_awake.calls k  true _ A4.out).mono ?_); rintro e w8 ⟨rfl, hb⟩; refine ⟨_, rfl, ?_⟩; have n0_ := Aside0.mk (blk_below (g := gb121) (o := .cells #[.int .u8 a2_0, .int .u8 a2_1, .int .u8 a2_2, .int .u8 a2_3] 35 (0, 0)) (by (with_reducible repeat (first | refine blk_drewN ?_ _ | refine blk_drew ?_ | refine blk_alloc ?_ _)); exact BK121.out) hb); have n1_ := Aside0.mk (below_step (by repeat (first | (with_reducible first | exact HB.out | apply below_alloc | apply pw_below_drewN | apply below_drew1 | refine below_set ?_ GE121.out) | exact HB.out)) hb); clear BK121; clear HB; have BK121 := n0_; have HB := n1_; clear n0_ n1_; (try clear hb); (try clear hb2); (try clear hk); (try clear hi)))
  (try simp only [Act.put, List.setIfInBounds_toArray, List.set_cons_zero, List.set_cons_succ])
  go_cut [29] (fun v29 wc => ∃ (kq : Nat) (x29_5 : Bool), v29 = .bool x29_5 ∧ Aside0 (cellaretlaw1_SumBursts.j0 kq l0 a1 [a2_0, a2_1, a2_2, a2_3] x29_5 = some r) ∧ Aside0 (kq ≤ k) ∧ Aside0 (wc.heap[gb121]? = some (.cells #[.int .u8 a2_0, .int .u8 a2_1, .int .u8 a2_2, .int .u8 a2_3] 35 (0, 0))) ∧ Aside0 (Below w.heap.size w wc))
  case first =>
   have H := HC6.out
   clear HC6
   by_cases c9 : (l0.length : Int) > 3000
   ·rw [if_pos c9] at H
    have c9b0 : decide (3000 < (l0.length : Int)) = true := decide_eq_true c9
    have c9b1 : decide (3000 < l0.length) = true := decide_eq_true (by omega)
    clear c9
    (first | rw [c9b0] | (simp only [i64_w, i32_w]; rw [c9b0]) | skip)
    have H' := Aside0.mk H
    clear H
    go_wp2
    go_meet
    case rel => exact ⟨_, (true), (by first | rfl | (simp; done) | (simp [*]; done)), H', ⟨by first | omega | exact Nat.le_refl _⟩, ⟨by (with_reducible repeat (first | refine blk_drewN ?_ _ | refine blk_drew ?_ | refine blk_alloc ?_ _)); exact BK121.out⟩, ⟨by repeat (first | (with_reducible first | exact HB.out | apply below_alloc | apply pw_below_drewN | apply below_drew1 | refine below_set ?_ GE121.out) | exact HB.out)⟩⟩
   ·rw [if_neg c9] at H
    have c9b0 : decide (3000 < (l0.length : Int)) = false := decide_eq_false c9
    have c9b1 : decide (3000 < l0.length) = false := decide_eq_false (by omega)
    clear c9
    (first | rw [c9b0] | (simp only [i64_w, i32_w]; rw [c9b0]) | skip)
    by_cases c10 : a1 < 0
    ·rw [if_pos c10] at H
     have c10b0 : decide (a1 < 0) = true := decide_eq_true c10
     clear c10
     have H' := Aside0.mk H
     clear H
     go_wp2
     go_meet
     case rel => exact ⟨_, (true), (by first | rfl | (simp; done) | (simp [*]; done)), H', ⟨by first | omega | exact Nat.le_refl _⟩, ⟨by (with_reducible repeat (first | refine blk_drewN ?_ _ | refine blk_drew ?_ | refine blk_alloc ?_ _)); exact BK121.out⟩, ⟨by repeat (first | (with_reducible first | exact HB.out | apply below_alloc | apply pw_below_drewN | apply below_drew1 | refine below_set ?_ GE121.out) | exact HB.out)⟩⟩
    ·rw [if_neg c10] at H
     have c10b0 : decide (a1 < 0) = false := decide_eq_false c10
     clear c10
     by_cases c11 : a1 > (wrap64 ((l0.length : Int) - 4))
     ·rw [if_pos c11] at H
      have c11b0 : decide ((wrap64 ((l0.length : Int) - 4)) < a1) = true := decide_eq_true c11
      clear c11
      have H' := Aside0.mk H
      clear H
      go_wp2
      go_meet
      case rel => exact ⟨_, (true), (by first | rfl | (simp; done) | (simp [*]; done)), H', ⟨by first | omega | exact Nat.le_refl _⟩, ⟨by (with_reducible repeat (first | refine blk_drewN ?_ _ | refine blk_drew ?_ | refine blk_alloc ?_ _)); exact BK121.out⟩, ⟨by repeat (first | (with_reducible first | exact HB.out | apply below_alloc | apply pw_below_drewN | apply below_drew1 | refine below_set ?_ GE121.out) | exact HB.out)⟩⟩
     ·rw [if_neg c11] at H
      have c11b0 : decide ((wrap64 ((l0.length : Int) - 4)) < a1) = false := decide_eq_false c11
      clear c11
      have H' := Aside0.mk H
      clear H
      have hcz12_0 : w8.cell? ⟨gb121, 0, none⟩ = some (.int .u8 a2_0) := (blk_cell BK121.out 0).trans rfl
      have hcz12_1 : w8.cell? ⟨gb121, 1, none⟩ = some (.int .u8 a2_1) := (blk_cell BK121.out 1).trans rfl
      have hcz12_2 : w8.cell? ⟨gb121, 2, none⟩ = some (.int .u8 a2_2) := (blk_cell BK121.out 2).trans rfl
      have hcz12_3 : w8.cell? ⟨gb121, 3, none⟩ = some (.int .u8 a2_3) := (blk_cell BK121.out 3).trans rfl
      have hfz12_0 := blk_frozen BK121.out 0
      have hfz12_1 := blk_frozen BK121.out 1
      have hfz12_2 := blk_frozen BK121.out 2
      have hfz12_3 := blk_frozen BK121.out 3
      go_wp2
      go_meet
      case rel => exact ⟨_, ((a2_0 == 0 && (a2_1 == 0 && (a2_2 == 0 && (a2_3 == 0))))), (by first | rfl | (simp; done) | (simp [*]; done)), H', ⟨by first | omega | exact Nat.le_refl _⟩, ⟨by (with_reducible repeat (first | refine blk_drewN ?_ _ | refine blk_drew ?_ | refine blk_alloc ?_ _)); exact BK121.out⟩, ⟨by repeat (first | (with_reducible first | exact HB.out | apply below_alloc | apply pw_below_drewN | apply below_drew1 | refine below_set ?_ GE121.out) | exact HB.out)⟩⟩
  case rest =>
   clear HC6
   try clear c1
   try clear c2
   try clear p2
   try clear c5
   try clear p6
   try clear c9
   try clear c9b0
   try clear c9b1
   try clear c10
   try clear c10b0
   try clear c11
   try clear c11b0
   try clear hcz12_0
   try clear hcz12_1
   try clear hcz12_2
   try clear hcz12_3
   try clear hfz12_0
   try clear hfz12_1
   try clear hfz12_2
   try clear hfz12_3
   obtain ⟨kq, x29_5, rfl, HA, HJ5, BK121, HB⟩ := hcut
   cases kq with
   | zero => exact absurd HA.out (by simp [cellaretlaw1_SumBursts.j0])
   | succ kj5 =>
    have H := HA.out
    clear HA
    simp only [cellaretlaw1_SumBursts.j0] at H
    by_cases c13 : x29_5 = true
    ·subst c13
     have H1 : (some true) = some r := by rw [if_pos rfl] at H; exact H
     clear H
     have H := H1
     clear H1
     obtain rfl := Option.some.inj H
     go_wp2
     go_ret
     exact ⟨by first | rfl | (simp [errW_none, errW_some] <;> rfl) | (simp [*, errW_none, errW_some] <;> rfl), by repeat (first | (with_reducible first | exact HB.out | apply below_alloc | apply pw_below_drewN | apply below_drew1 | refine below_set ?_ GE121.out) | exact HB.out)⟩
    ·replace c13 := Bool.eq_false_iff.mpr c13
     subst c13
     have H1 : ((some (([] : List Int) : List Int)).bind fun y123 => (if y123.length + l0.length < 140737488355328 then (cellaretlaw1_SumBursts.l0 kj5 l0 a1 [a2_0, a2_1, a2_2, a2_3] (y123 ++ l0) 0) else (none))) = some r := by rw [if_neg (show ¬ (false = true) by decide)] at H; exact H
     clear H
     have H := H1
     clear H1
     obtain ⟨y123, hy123⟩ : ∃ y_ : List Int, y_ = (([] : List Int)) := ⟨_, rfl⟩
     replace H : (if y123.length + l0.length < 140737488355328 then (cellaretlaw1_SumBursts.l0 kj5 l0 a1 [a2_0, a2_1, a2_2, a2_3] (y123 ++ l0) 0) else (none)) = some r := by first | (rw [hy123]; with_reducible exact H) | (have H2_ := (Option.bind_some _ _).symm.trans H; rw [hy123]; with_reducible exact H2_) | (have H2_ := (Option.bind_some _ _).symm.trans H; with_reducible exact H2_) | with_reducible exact H | (rw [hy123]; exact H) | exact H
     have Ny123 := Aside0.mk hy123
     clear hy123
     by_cases c14 : y123.length + l0.length < 140737488355328
     ·rw [if_pos c14] at H
      have LMc14 := Aside0.mk c14
      clear c14
      obtain ⟨y126, hy126⟩ : ∃ y_ : List Int, y_ = (y123 ++ l0) := ⟨_, rfl⟩
      replace H : (cellaretlaw1_SumBursts.l0 kj5 l0 a1 [a2_0, a2_1, a2_2, a2_3] y126 0) = some r := by first | (rw [hy126]; with_reducible exact H) | (have H2_ := (Option.bind_some _ _).symm.trans H; rw [hy126]; with_reducible exact H2_) | (have H2_ := (Option.bind_some _ _).symm.trans H; with_reducible exact H2_) | with_reducible exact H | (rw [hy126]; exact H) | exact H
      have Ny126 := Aside0.mk hy126
      clear hy126
      have H' := Aside0.mk H
      clear H
      go_wp2_with (first | ((with_reducible refine gate_dst (N := 30) rfl ?_); (try (refine gate_guard (by rfl) ?_; dsimp only)); refine Kd.R_lit (Kd.int .u8) _ 5 ?hg (N := 30) ?hd (xs := ([] : List Int)) (inner := []) (ok := fun _ => True) (okp := fun _ => True) ?hr ?hp (fun _ hk => hk) trivial (Below.refl _ _) (Nat.le_refl _) (by simp) ?_; (case hd => rfl); (case hg => rfl); (case hr => first | (go_simp; done) | (go_simp; rfl)); (case hp => exact (Reps.none _ _)); intro v124 w15 ho16 hb hg_ hnew_; clear hg_ hnew_; (first | rw [← Ny123.out] at ho16 | (simp only [Int.reduceToNat] at ho16; rw [← Ny123.out] at ho16)); have n0_ := Aside0.mk (Kd.R_lower ho16 (below_size (by repeat (first | (with_reducible first | exact HB.out | apply below_alloc | apply pw_below_drewN | apply below_drew1 | refine below_set ?_ GE121.out) | exact HB.out)))); have n1_ := Aside0.mk (blk_below (g := gb121) (o := .cells #[.int .u8 a2_0, .int .u8 a2_1, .int .u8 a2_2, .int .u8 a2_3] 35 (0, 0)) (by (with_reducible repeat (first | refine blk_drewN ?_ _ | refine blk_drew ?_ | refine blk_alloc ?_ _)); exact BK121.out) hb); have n2_ := Aside0.mk (below_step (by repeat (first | (with_reducible first | exact HB.out | apply below_alloc | apply pw_below_drewN | apply below_drew1 | refine below_set ?_ GE121.out) | exact HB.out)) hb); clear BK121; clear HB; have HO125 := n0_; have BK121 := n1_; have HB := n2_; clear n0_ n1_ n2_; clear hb ho16) | ((with_reducible refine gate_builtin (b := .append) (xs := #[.tmp 30, .tmp 31]) rfl ?_); (try (refine gate_guard (by rfl) ?_; dsimp only)); at_builtin; refine Kd.R_append_rows (Kd.int .u8) (w0 := w) w.heap.size rfl (.tmp 30) (.tmp 31) 28 5 (.int .u8 0) 1 rfl Try.underlying28 info5 rfl (by decide) (by omega) v124 y123 l0 _ _ _ (fun _ => True) (fun _ => False) rfl rfl ?aO ?aR (fun _ _ h => h) (fun _ h => h.elim) ?aF ?aB ?aS ?aL ?_; (case aR => repeat (first | exact (Kd.C_below HR0.out HB.out) | (with_reducible refine Kd.C_alloc ?_ _) | (with_reducible refine Kd.C_drewN ?_ _) | (with_reducible refine Kd.C_drew ?_))); (case aB => exact (by repeat (first | (with_reducible first | exact HB.out | apply below_alloc | apply pw_below_drewN | apply below_drew1 | refine below_set ?_ GE121.out) | exact HB.out))); (case aF => exact (fun _ _ => trivial)); (case aO => exact (by (with_reducible repeat (first | apply Kd.R_alloc | apply Kd.R_drewN | apply Kd.R_drew)); exact HO125.out)); (case aS => exact (below_size (by repeat (first | (with_reducible first | exact HB.out | apply below_alloc | apply pw_below_drewN | apply below_drew1 | refine below_set ?_ GE121.out) | exact HB.out)))); (case aL => have := LMc14.out; omega); intro v127 w17 ho hb hg hat; rw [← Ny126.out] at ho; have n0_ := Aside0.mk (blk_grown (g := gb121) (o := .cells #[.int .u8 a2_0, .int .u8 a2_1, .int .u8 a2_2, .int .u8 a2_3] 35 (0, 0)) (by (with_reducible repeat (first | refine blk_drewN ?_ _ | refine blk_drew ?_ | refine blk_alloc ?_ _)); exact BK121.out) hg (Kd.R_ne HO125.out BK121.out (by decide))); have n1_ := Aside0.mk (hb); have n2_ := Aside0.mk (ho); clear BK121; clear HB; clear HO125; have BK121 := n0_; have HB := n1_; have HO128 := n2_; clear n0_ n1_ n2_; clear ho hb hg hat))
      go_loopg [8] kj5 (fun kq v8 w' => ∃ (x7_2 : List Int) (x8_2 : Int), v8 = .int .i64 x8_2 ∧ Aside0 (cellaretlaw1_SumBursts.l0 kq l0 a1 [a2_0, a2_1, a2_2, a2_3] x7_2 x8_2 = some r) ∧ Aside0 (kq ≤ kj5) ∧ Aside0 (Kd.R (Kd.int .u8) 5 w' w.heap.size (fun _ => True) v127 x7_2) ∧ Aside0 (w'.heap[gb121]? = some (.cells #[.int .u8 a2_0, .int .u8 a2_1, .int .u8 a2_2, .int .u8 a2_3] 35 (0, 0))) ∧ Aside0 (Below w.heap.size w w'))
      case atStart => exact ⟨(y126), (0), (by first | rfl | (simp; done) | (simp [*]; done)), H', ⟨Nat.le_refl _⟩, ⟨by (with_reducible repeat (first | apply Kd.R_alloc | apply Kd.R_drewN | apply Kd.R_drew)); exact HO128.out⟩, ⟨by (with_reducible repeat (first | refine blk_drewN ?_ _ | refine blk_drew ?_ | refine blk_alloc ?_ _)); exact BK121.out⟩, ⟨by repeat (first | (with_reducible first | exact HB.out | apply below_alloc | apply pw_below_drewN | apply below_drew1 | refine below_set ?_ GE121.out) | exact HB.out)⟩⟩
      case round =>
       clear H'
       try clear c1
       try clear c2
       try clear p2
       try clear c5
       try clear p6
       try clear c9
       try clear c9b0
       try clear c9b1
       try clear c10
       try clear c10b0
       try clear c11
       try clear c11b0
       try clear c13
       try clear c14
       try clear hcz12_0
       try clear hcz12_1
       try clear hcz12_2
       try clear hcz12_3
       try clear hfz12_0
       try clear hfz12_1
       try clear hfz12_2
       try clear hfz12_3
       try clear p2
       try clear p6
       obtain ⟨x7_2, x8_2, rfl, HA, HK2, HO_7, BK121, HB⟩ := hrel
       cases gk with
       | zero => exact absurd HA.out (by simp [cellaretlaw1_SumBursts.l0])
       | succ k2 =>
        have H := HA.out
        clear HA
        simp only [cellaretlaw1_SumBursts.l0] at H
        by_cases c18 : x8_2 < 4
        ·rw [if_pos c18] at H
         have c18b0 : decide (x8_2 < 4) = true := decide_eq_true c18
         clear c18
         obtain ⟨ji19, hji19⟩ : ∃ j_ : Int, (wrap64 (a1 + x8_2)) = j_ := ⟨_, rfl⟩
         replace H : (if 0 ≤ (ji19) then (if (ji19) < (x7_2.length : Int) then (if 0 ≤ x8_2 then (cellaretlaw1_SumBursts.l0 k2 l0 a1 [a2_0, a2_1, a2_2, a2_3] (x7_2.set ((ji19) : Int).toNat (Go.bits .xor .u8 (rd x7_2 (ji19)) (rd [a2_0, a2_1, a2_2, a2_3] x8_2))) (wrap64 (x8_2 + 1))) else (none)) else (none)) else (none)) = some r := by first | (rw [hji19] at H; exact H) | (simp only [hji19] at H ⊢; exact H)
         have hji19w : (IntKind.i64.wrap (a1 + x8_2)) = ji19 := (i64_w _).trans hji19
         by_cases c20 : 0 ≤ (ji19)
         ·rw [if_pos c20] at H
          have c20b0 : decide (0 ≤ (ji19)) = true := decide_eq_true c20
          clear c20
          by_cases c21 : (ji19) < (x7_2.length : Int)
          ·rw [if_pos c21] at H
           have c21b0 : decide ((ji19) < (x7_2.length : Int)) = true := decide_eq_true c21
           clear c21
           by_cases c22 : 0 ≤ x8_2
           rotate_left
           ·rw [if_neg c22] at H
            exact absurd H (by simp)
           rw [if_pos c22] at H
           have c22b0 : decide (0 ≤ x8_2) = true := decide_eq_true c22
           clear c22
           obtain ⟨y130, hy130⟩ : ∃ y_ : List Int, y_ = (x7_2.set ((ji19) : Int).toNat (Go.bits .xor .u8 (rd x7_2 (ji19)) (rd [a2_0, a2_1, a2_2, a2_3] x8_2))) := ⟨_, rfl⟩
           replace H : (cellaretlaw1_SumBursts.l0 k2 l0 a1 [a2_0, a2_1, a2_2, a2_3] y130 (wrap64 (x8_2 + 1))) = some r := by first | (rw [hy130]; with_reducible exact H) | (have H2_ := (Option.bind_some _ _).symm.trans H; rw [hy130]; with_reducible exact H2_) | (have H2_ := (Option.bind_some _ _).symm.trans H; with_reducible exact H2_) | with_reducible exact H | (rw [hy130]; exact H) | exact H
           have Ny130 := Aside0.mk hy130
           clear hy130
           have H' := Aside0.mk H
           clear H
           try go_wp2
           have n0_ := Aside0.mk (Kd.R_drew HO_7.out)
           have n1_ := Aside0.mk (blk_drew BK121.out)
           have n2_ := Aside0.mk (below_drew1 HB.out)
           clear HO_7
           clear BK121
           clear HB
           have HO_7 := n0_
           have BK121 := n1_
           have HB := n2_
           clear n0_ n1_ n2_
           obtain ⟨Ao24, co24, eo24⟩ := Kd.R_slice HO_7.out
           (first | subst eo24 | (injection eo24 with f1_ f2_ f3_; have f4_ := f1_.symm; have f5_ := f3_.symm; clear f1_ f2_ f3_; subst f4_; subst f5_))
           have p129 : 0 ≤ ((ji19) : Int) := of_decide_eq_true (by first | (with_reducible assumption) | assumption)
           have q129 : (ji19) < (x7_2.length : Int) := of_decide_eq_true (by first | (with_reducible assumption) | assumption)
           have p131 : 0 ≤ (x8_2 : Int) := of_decide_eq_true (by first | (with_reducible assumption) | assumption)
           have q131 : x8_2 < 4 := of_decide_eq_true (by first | (with_reducible assumption) | assumption)
           have hx131 := (blk_cell BK121.out x8_2.toNat).trans (XArr.at4 a2_0 a2_1 a2_2 a2_3 x8_2 p131 q131)
           have hf131 := blk_frozen BK121.out x8_2.toNat
           replace p131 := eq_true p131
           replace q131 := eq_true q131
           obtain ⟨ad129, e129, hx129_0⟩ := Kd.at_int (Kd.R_reads' HO_7.out).2.2 (ji19) p129 q129
           cases e129
           replace p129 := eq_true p129
           replace q129 := eq_true q129
           have p22 : 0 ≤ ((ji19) : Int) := of_decide_eq_true (by first | (with_reducible assumption) | assumption)
           have q22 : ((ji19) : Int) < ((x7_2.length : Int) : Int) := of_decide_eq_true (by first | (with_reducible assumption) | assumption)
           obtain ⟨go22, co22, eo22, gb22, gl22, cl22, HG22⟩ := Kd.R_form HO_7.out (by omega)
           (first | cases eo22 | (injection eo22 with ea_ en_ ec_; (first | subst ea_ | (injection ea_ with ea_; subst ea_)); subst ec_; clear en_))
           have GB22 := Aside0.mk gb22
           have GG22 := Aside0.mk HG22
           clear gb22 gl22 HG22
           (first | simp only [add_plain] at hx129_0 | skip)
           obtain ⟨hx22_0, hf22_0⟩ := Kd.R_celln 0 HO_7.out ((ji19) : Int) p22 q22
           replace p22 := eq_true p22
           replace q22 := eq_true q22
           have HP25 := Kd.R_putn HO_7.out ((ji19) : Int) (Go.bits .xor .u8 (rd x7_2 (ji19)) (rd [a2_0, a2_1, a2_2, a2_3] x8_2))
           rw [← Ny130.out] at HP25
           have HQ25 := Aside0.mk HP25
           clear HP25
           refine start_ (n := 16) (S := fun w' => w'.cell? ⟨go22, ((ji19)).toNat, none⟩ = some (.int .u8 (rd x7_2 (ji19))) ∧ w'.cell? ⟨gb121, x8_2.toNat, none⟩ = some (.int .u8 (rd [a2_0, a2_1, a2_2, a2_3] x8_2))) (ds := [15]) #[false, false, false, false, false, false, false, false, false, false, false, false, false, false, false, false] (by kernel_rfl) rfl rfl ⟨hx129_0, hx131⟩ (fun hHeld => ?_); refine with_tabW cellaretlaw1_SumBursts.tab9 cellaretlaw1_SumBursts.bits9 (fun HT_ HW_ => ?_)
           generalize wr.drew = w23 at HO_7 BK121 HB GG22 HQ25 hf22_0 hx129_0 hx22_0 hHeld ⊢
           refine pure_ (i := 0) (N := some 37) (v := ?_) (a' := ?_) #[true, false, false, false, false, false, false, false, false, false, false, false, false, false, false, false] rfl rfl (any_of HT_.out (by kernel_rfl)) (fun _ _ _ h => h) (Or.inl ⟨by rfl, ?_⟩) ?_ ?_
           rotate_left
           ·intro w'
            go_simp
            with_reducible rfl
           rotate_left
           ·simp only [Act.put, List.setIfInBounds_toArray, List.set_cons_zero, List.set_cons_succ, i64_w, i32_w]
            rfl
           refine pure_ (i := 1) (N := some 38) (v := ?_) (a' := ?_) #[true, true, false, false, false, false, false, false, false, false, false, false, false, false, false, false] rfl rfl (any_of HT_.out (by kernel_rfl)) (fun _ _ _ h => h) (Or.inl ⟨by rfl, ?_⟩) ?_ ?_
           rotate_left
           ·intro w'
            go_simp
            with_reducible rfl
           rotate_left
           ·simp only [Act.put, List.setIfInBounds_toArray, List.set_cons_zero, List.set_cons_succ, i64_w, i32_w]
            rfl
           refine pure_ (i := 2) (N := some 39) (v := ?_) (a' := ?_) #[true, true, true, false, false, false, false, false, false, false, false, false, false, false, false, false] rfl rfl (any_of HT_.out (by kernel_rfl)) (fun _ _ _ h => h) (Or.inl ⟨by rfl, ?_⟩) ?_ ?_
           rotate_left
           ·intro w'
            go_simp
            with_reducible rfl
           rotate_left
           ·simp only [Act.put, List.setIfInBounds_toArray, List.set_cons_zero, List.set_cons_succ, i64_w, i32_w]
            rfl
           refine pure_ (i := 3) (N := some 40) (v := ?_) (a' := ?_) #[true, true, true, true, false, false, false, false, false, false, false, false, false, false, false, false] rfl rfl (any_of HT_.out (by kernel_rfl)) (fun _ _ _ h => h) (Or.inl ⟨by rfl, ?_⟩) ?_ ?_
           rotate_left
           ·intro w'
            go_simp
            with_reducible rfl
           rotate_left
           ·simp only [Act.put, List.setIfInBounds_toArray, List.set_cons_zero, List.set_cons_succ, i64_w, i32_w]
            rfl
           refine pure_ (i := 4) (N := some 41) (v := ?_) (a' := ?_) #[true, true, true, true, true, false, false, false, false, false, false, false, false, false, false, false] rfl rfl (any_of HT_.out (by kernel_rfl)) (fun _ _ _ h => h) (Or.inl ⟨by rfl, ?_⟩) ?_ ?_
           rotate_left
           ·intro w'
            go_simp
            with_reducible rfl
           rotate_left
           ·simp only [Act.put, List.setIfInBounds_toArray, List.set_cons_zero, List.set_cons_succ, i64_w, i32_w]
            rfl
           refine pure_ (i := 5) (N := some 42) (v := ?_) (a' := ?_) #[true, true, true, true, true, true, false, false, false, false, false, false, false, false, false, false] rfl rfl (any_of HT_.out (by kernel_rfl)) (fun _ _ _ h => h) (Or.inl ⟨by rfl, ?_⟩) ?_ ?_
           rotate_left
           ·intro w'
            go_simp
            with_reducible rfl
           rotate_left
           ·simp only [Act.put, List.setIfInBounds_toArray, List.set_cons_zero, List.set_cons_succ, i64_w, i32_w]
            rfl
           refine pure_ (i := 6) (N := some 43) (v := ?_) (a' := ?_) #[true, true, true, true, true, true, true, false, false, false, false, false, false, false, false, false] rfl rfl (any_of HT_.out (by kernel_rfl)) (fun _ _ _ h => h) (Or.inl ⟨by rfl, ?_⟩) ?_ ?_
           rotate_left
           ·intro w'
            go_simp
            with_reducible rfl
           rotate_left
           ·simp only [Act.put, List.setIfInBounds_toArray, List.set_cons_zero, List.set_cons_succ, i64_w, i32_w]
            rfl
           refine pure_ (i := 7) (N := some 44) (v := ?_) (a' := ?_) #[true, true, true, true, true, true, true, true, false, false, false, false, false, false, false, false] rfl rfl (any_of HT_.out (by kernel_rfl)) (fun _ _ _ h => h) (Or.inl ⟨by rfl, ?_⟩) ?_ ?_
           rotate_left
           ·intro w'
            go_simp
            with_reducible rfl
           rotate_left
           ·simp only [Act.put, List.setIfInBounds_toArray, List.set_cons_zero, List.set_cons_succ, i64_w, i32_w]
            rfl
           refine pure_ (i := 8) (N := some 45) (v := ?_) (a' := ?_) #[true, true, true, true, true, true, true, true, true, false, false, false, false, false, false, false] rfl rfl (any_of HT_.out (by kernel_rfl)) (fun _ _ _ h => h) (Or.inl ⟨by rfl, ?_⟩) ?_ ?_
           rotate_left
           ·intro w'
            go_simp
            with_reducible rfl
           rotate_left
           ·simp only [Act.put, List.setIfInBounds_toArray, List.set_cons_zero, List.set_cons_succ, i64_w, i32_w]
            rfl
           refine pure_ (i := 10) (N := some 47) (v := ?_) (a' := ?_) #[true, true, true, true, true, true, true, true, true, false, true, false, false, false, false, false] rfl rfl (any_of HT_.out (by kernel_rfl)) (fun _ _ _ h => h) (Or.inl ⟨by rfl, ?_⟩) ?_ ?_
           rotate_left
           ·intro w'
            go_simp
            with_reducible rfl
           rotate_left
           ·simp only [Act.put, List.setIfInBounds_toArray, List.set_cons_zero, List.set_cons_succ, i64_w, i32_w]
            rfl
           refine pure_ (i := 11) (N := some 48) (v := ?_) (a' := ?_) #[true, true, true, true, true, true, true, true, true, false, true, true, false, false, false, false] rfl rfl (any_of HT_.out (by kernel_rfl)) (fun _ _ _ h => h) (Or.inl ⟨by rfl, ?_⟩) ?_ ?_
           rotate_left
           ·intro w'
            go_simp
            with_reducible rfl
           rotate_left
           ·simp only [Act.put, List.setIfInBounds_toArray, List.set_cons_zero, List.set_cons_succ, i64_w, i32_w]
            rfl
           refine take_ (i := 9) (N := some 46) (v := ?_) (a' := ?_) #[true, true, true, true, true, true, true, true, true, true, true, true, false, false, false, false] rfl rfl (take_ofW HT_.out HW_.out (by kernel_rfl)) (fun _ _ _ h => h) (Or.inl ⟨by rfl, ?_⟩) hHeld ?_ ?_
           rotate_left
           ·rintro w' ⟨s0, s1⟩
            go_simp
            with_reducible rfl
           rotate_left
           ·simp only [Act.put, List.setIfInBounds_toArray, List.set_cons_zero, List.set_cons_succ, i64_w, i32_w]
            rfl
           refine take_ (i := 12) (N := some 49) (v := ?_) (a' := ?_) #[true, true, true, true, true, true, true, true, true, true, true, true, true, false, false, false] rfl rfl (take_ofW HT_.out HW_.out (by kernel_rfl)) (fun _ _ _ h => h) (Or.inl ⟨by rfl, ?_⟩) hHeld ?_ ?_
           rotate_left
           ·rintro w' ⟨s0, s1⟩
            go_simp
            with_reducible rfl
           rotate_left
           ·simp only [Act.put, List.setIfInBounds_toArray, List.set_cons_zero, List.set_cons_succ, i64_w, i32_w]
            rfl
           refine pure_ (i := 13) (N := some 50) (v := ?_) (a' := ?_) #[true, true, true, true, true, true, true, true, true, true, true, true, true, true, false, false] rfl rfl (any_of HT_.out (by kernel_rfl)) (fun _ _ _ h => h) (Or.inl ⟨by rfl, ?_⟩) ?_ ?_
           rotate_left
           ·intro w'
            go_simp
            with_reducible rfl
           rotate_left
           ·simp only [Act.put, List.setIfInBounds_toArray, List.set_cons_zero, List.set_cons_succ, i64_w, i32_w]
            rfl
           refine pure_ (i := 14) (N := some 51) (v := ?_) (a' := ?_) #[true, true, true, true, true, true, true, true, true, true, true, true, true, true, true, false] rfl rfl (any_of HT_.out (by kernel_rfl)) (fun _ _ _ h => h) (Or.inl ⟨by rfl, ?_⟩) ?_ ?_
           rotate_left
           ·intro w'
            go_simp
            with_reducible rfl
           rotate_left
           ·simp only [Act.put, List.setIfInBounds_toArray, List.set_cons_zero, List.set_cons_succ, i64_w, i32_w]
            rfl
           refine last_ (i := 15) (N := none) #[true, true, true, true, true, true, true, true, true, true, true, true, true, true, true, true] rfl rfl (one_of HT_.out (by kernel_rfl)) (by decide) (fun K hK => ?_)
           refine skip_ (w1 := ?_) (by rfl) rfl ?_ ?_
           rotate_left
           ·go_simp
            rfl
           refine hK.out _ _ ?_
           clear hK K
           refine done_ (done_of HT_.out (by kernel_rfl)) ?_
           try go_wp2
           go_roundg k2
           case measure => have := HJ5.out; have := HK2.out; omega
           case rel => exact ⟨(y130), (wrap64 (x8_2 + 1)), (by first | rfl | (simp; done) | (simp [*]; done)), H', ⟨by have := HJ5.out; have := HK2.out; omega⟩, ⟨by (with_reducible repeat (first | apply Kd.R_alloc | apply Kd.R_drewN | apply Kd.R_drew)); exact HQ25.out⟩, ⟨by (with_reducible repeat (first | refine blk_drewN ?_ _ | refine blk_drew ?_ | refine blk_alloc ?_ _)); refine blk_far ?_ (by have h_ := Kd.R_ne HO_7.out BK121.out (by decide); intro e_; exact h_ (by rw [e_]; rfl)) _; (with_reducible repeat (first | refine blk_drewN ?_ _ | refine blk_drew ?_ | refine blk_alloc ?_ _)); exact BK121.out⟩, ⟨by repeat (first | (with_reducible first | exact HB.out | apply below_alloc | apply pw_below_drewN | apply below_drew1 | refine below_set ?_ GB22.out | refine below_set ?_ GE121.out) | exact HB.out)⟩⟩
          ·rw [if_neg c21] at H
           exact absurd H (by simp)
         ·rw [if_neg c20] at H
          exact absurd H (by simp)
        ·rw [if_neg c18] at H
         have c18b0 : decide (x8_2 < 4) = false := decide_eq_false c18
         clear c18
         replace H := Option.bind_eq_some_iff.mp H
         obtain ⟨t131, A260, H⟩ := H
         replace H : ((sum_Crc.f k2 l0).bind fun t132 => (some (t131 != t132))) = some r := H
         have A26 := Aside0.mk A260
         clear A260
         replace H := Option.bind_eq_some_iff.mp H
         obtain ⟨t132, A270, H⟩ := H
         replace H : (some (t131 != t132)) = some r := H
         have A27 := Aside0.mk A270
         clear A270
         obtain rfl := Option.some.inj H
         obtain ⟨Ao28, co28, eo28⟩ := Kd.R_slice HO_7.out
         subst eo28
         go_wp2_with (first | ((with_reducible refine gate_callee (f := 22) rfl ?_); refine goesL_ (some 53) rfl rfl Try.func22 (by kernel_rfl) rfl #[.slice Ao28 x7_2.length co28] rfl (by (try simp only [List.map_toArray, List.map_cons, List.map_nil]); first | done | rfl | (simp only [List.length_drop, List.length_take]; rfl) | (go_simp; done) | (go_simp; rfl)) ?_; (with_reducible refine (sum_Crc.calls k2 _ _ x7_2 t131 _ ?side1 ?side2 A26.out).mono ?_); (case side1 => repeat (first | exact (Kd.R_reads' HO_7.out).2.2 | (with_reducible refine Kd.C_alloc ?_ _) | (with_reducible refine Kd.C_drewN ?_ _) | (with_reducible refine Kd.C_drew ?_))); (case side2 => exact (Kd.R_reads' HO_7.out).2.1); rintro e w' ⟨rfl, ⟨nd, rfl⟩⟩; refine ⟨_, rfl, ?_⟩) | ((with_reducible refine gate_callee (f := 22) rfl ?_); refine goesL_ (some 55) rfl rfl Try.func22 (by kernel_rfl) rfl #[.slice A0 l0.length c0] rfl (by (try simp only [List.map_toArray, List.map_cons, List.map_nil]); first | done | rfl | (simp only [List.length_drop, List.length_take]; rfl) | (go_simp; done) | (go_simp; rfl)) ?_; (with_reducible refine (sum_Crc.calls k2 _ _ l0 t132 _ ?side1 ?side2 A27.out).mono ?_); (case side1 => repeat (first | exact (Kd.C_below HR0.out (by repeat (first | (with_reducible first | exact HB.out | apply below_alloc | apply pw_below_drewN | apply below_drew1 | refine below_set ?_ GE121.out) | exact HB.out))) | (with_reducible refine Kd.C_alloc ?_ _) | (with_reducible refine Kd.C_drewN ?_ _) | (with_reducible refine Kd.C_drew ?_))); (case side2 => exact HC0.out); rintro e w' ⟨rfl, ⟨nd, rfl⟩⟩; refine ⟨_, rfl, ?_⟩))
         go_ret
         exact ⟨by first | rfl | (simp [errW_none, errW_some] <;> rfl) | (simp [*, errW_none, errW_some] <;> rfl), by repeat (first | (with_reducible first | exact HB.out | apply below_alloc | apply pw_below_drewN | apply below_drew1 | refine below_set ?_ GE121.out) | exact HB.out)⟩
     ·rw [if_neg c14] at H
      exact absurd H (by simp)
 ·replace c5 := Bool.eq_false_iff.mpr c5
  subst c5
  have H1 : (some false) = some r := by rw [if_neg (show ¬ (false = true) by decide)] at H; exact H
  clear H
  have H := H1
  clear H1
  obtain rfl := Option.some.inj H
  go_enter Try.func9, Try.ntmps9
  go_wp2_with (first | ((with_reducible refine gate_dst (N := 5) rfl ?_); (try (refine gate_guard (by rfl) ?_; dsimp only)); refine box_event ?hg (N := 5) ?hd (cs := #[.int .u8 a2_0, .int .u8 a2_1, .int .u8 a2_2, .int .u8 a2_3]) (t := 35) ?hr ?_; (case hd => rfl); (case hg => rfl); (case hr => first | (go_simp; done) | (go_simp; rfl)); intro gb121 hg w29 hbox hb; have n0_ := Aside0.mk (below_step (by repeat (first | (with_reducible first | exact HB.out | apply below_alloc | apply pw_below_drewN | apply below_drew1) | exact HB.out)) hb); have n1_ := Aside0.mk (hbox); have n2_ := Aside0.mk ((by rw [hg]; exact (below_size (by repeat (first | (with_reducible first | exact HB.out | apply below_alloc | apply pw_below_drewN | apply below_drew1) | exact HB.out))) : w.heap.size ≤ gb121)); have n3_ := Aside0.mk ((by rw [hg]; exact (below_size (by repeat (first | (with_reducible first | exact HB.out | apply below_alloc | apply pw_below_drewN | apply below_drew1) | exact HB.out))) : w.heap.size ≤ gb121)); clear HB; have HB := n0_; have BK121 := n1_; have GW121 := n2_; have GE121 := n3_; clear n0_ n1_ n2_ n3_; clear hb hbox hg) | ((with_reducible refine gate_callee (f := 21) rfl ?_); refine goesL_ (some 9) rfl rfl Try.func21 (by kernel_rfl) rfl #[] rfl (by (try simp only [List.map_toArray, List.map_cons, List.map_nil]); first | done | rfl | (simp only [List.length_drop, List.length_take]; rfl) | (go_simp; done) | (go_simp; rfl)) ?_; (with_reducible refine (cellaretlaw1_awake.calls k  false _ A4.out).mono ?_); rintro e w30 ⟨rfl, hb⟩; refine ⟨_, rfl, ?_⟩; have n0_ := Aside0.mk (blk_below (g := gb121) (o := .cells #[.int .u8 a2_0, .int .u8 a2_1, .int .u8 a2_2, .int .u8 a2_3] 35 (0, 0)) (by (with_reducible repeat (first | refine blk_drewN ?_ _ | refine blk_drew ?_ | refine blk_alloc ?_ _)); exact BK121.out) hb); have n1_ := Aside0.mk (below_step (by repeat (first | (with_reducible first | exact HB.out | apply below_alloc | apply pw_below_drewN | apply below_drew1 | refine below_set ?_ GE121.out) | exact HB.out)) hb); clear BK121; clear HB; have BK121 := n0_; have HB := n1_; clear n0_ n1_; (try clear hb); (try clear hb2); (try clear hk); (try clear hi)))
  go_ret
  exact ⟨by first | rfl | (simp [errW_none, errW_some] <;> rfl) | (simp [*, errW_none, errW_some] <;> rfl), by repeat (first | (with_reducible first | exact HB.out | apply below_alloc | apply pw_below_drewN | apply below_drew1 | refine below_set ?_ GE121.out) | exact HB.out)⟩

end Go.Proofs.Ytefalfheeofhhaa.QS
