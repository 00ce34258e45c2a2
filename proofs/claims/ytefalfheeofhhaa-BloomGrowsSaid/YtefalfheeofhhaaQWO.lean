/- Laid by a program of this session: what the Go functions answer, as Lean functions, and the walks that prove it; no condition beyond what each statement names. -/
import Derived.Test.YtefalfheeofhhaaQWA
namespace Go.Proofs.Ytefalfheeofhhaa.QW
open Go.RowKit Go.Proofs.YtefalfheeofhhaaW.PrintWords Go.Proofs.YtefalfheeofhhaaW.PrintLast Go.Proofs.YtefalfheeofhhaaW.PrintMore
open Go.Proofs.Ytefalfheeofhhaa.QV (errW errW_none errW_some info3)
attribute [local go_sem] max2_int min2_int max_two min_two max_three min_three max_four min_four
set_option linter.unusedVariables false
set_option linter.unusedSimpArgs false

/-! ### cellaretlaw7_BloomGrows: function 14 -/
mutual
def cellaretlaw7_BloomGrows.j0 : Nat → Int → List ByteArray → Bool → List Bool → Int → Option (Bool)
 | 0, _, _, _, _, _ => none
 | k + 1, x1, x2, x27, x217000, x217001 => if x27 = true then (some true) else (cellaretlaw7_BloomGrows.l0 k x1 x2 0 0 x217000 x217001)
def cellaretlaw7_BloomGrows.l0 : Nat → Int → List ByteArray → Int → Int → List Bool → Int → Option (Bool)
 | 0, _, _, _, _, _, _ => none
 | k + 1, x1, x2, x9, x10, x217000, x217001 => if x10 < (x2.length : Int) then (if 0 ≤ x10 then ((bloom_Filter_May.f x217000 x217001 (rdOf ByteArray.empty x2 x10)).bind fun bt218 => ((bloom_Filter_Add.f bt218.2.1 bt218.2.2 (rdOf ByteArray.empty x2 x10)).bind fun bt222 => ((bloom_Filter_Count.f bt222.1 bt222.2).bind fun bt224 => (if bt224.1 < x9 then (some false) else (if bt224.1 > (wrap64 (x9 + x1)) then (some false) else (if bt218.1 = true then (if bt224.1 = x9 then (cellaretlaw7_BloomGrows.l0 k x1 x2 bt224.1 (wrap64 (x10 + 1)) bt224.2.1 bt224.2.2) else (some false)) else (if bt224.1 = x9 then (some false) else (cellaretlaw7_BloomGrows.l0 k x1 x2 bt224.1 (wrap64 (x10 + 1)) bt224.2.1 bt224.2.2)))))))) else (none)) else (some true)
end
def cellaretlaw7_BloomGrows.f (k : Nat) (a0 : Int) (a1 : Int) (l2 : List ByteArray) : Option (Bool) := (cellaretlaw7_awake.f k).bind fun t213 => (if t213 = true then ((bloom_New.f a0 a1).bind fun bt214 => (if 0 = 0 then (cellaretlaw7_BloomGrows.j0 k a1 l2 (decide ((l2.length : Int) > 60)) bt214.1 bt214.2) else (cellaretlaw7_BloomGrows.j0 k a1 l2 true bt214.1 bt214.2))) else (some false))
theorem cellaretlaw7_BloomGrows.mono_l : ∀ k, (∀ y0 y1 y2 y3 y4, LeO (cellaretlaw7_BloomGrows.j0 k y0 y1 y2 y3 y4) (cellaretlaw7_BloomGrows.j0 (k + 1) y0 y1 y2 y3 y4)) ∧ (∀ y0 y1 y2 y3 y4 y5, LeO (cellaretlaw7_BloomGrows.l0 k y0 y1 y2 y3 y4 y5) (cellaretlaw7_BloomGrows.l0 (k + 1) y0 y1 y2 y3 y4 y5))
 | 0 => ⟨fun _ _ _ _ _ r h => by simp [cellaretlaw7_BloomGrows.j0] at h, fun _ _ _ _ _ _ r h => by simp [cellaretlaw7_BloomGrows.l0] at h⟩
 | k + 1 => by
  obtain ⟨ih0, ih1⟩ := cellaretlaw7_BloomGrows.mono_l k
  refine ⟨?_, ?_⟩
  ·intro y0 y1 y2 y3 y4
   unfold cellaretlaw7_BloomGrows.j0
   repeat' first
   | (with_reducible exact ih0 _ _ _ _ _)
   | (with_reducible exact ih1 _ _ _ _ _ _)
   | (with_reducible exact cellaretlaw7_awake.mono _)
   | (with_reducible exact LeO.refl _)
   | (with_reducible exact LeO.none _)
   | (with_reducible refine LeO.ite ?_ ?_)
   | (with_reducible refine LeO.bind ?_ (fun _ => ?_))
   | exact ih0 _ _ _ _ _
   | exact ih1 _ _ _ _ _ _
   | exact cellaretlaw7_awake.mono _
   | exact LeO.none _
   | refine LeO.ite ?_ ?_
   | refine LeO.bind ?_ (fun _ => ?_)
  ·intro y0 y1 y2 y3 y4 y5
   unfold cellaretlaw7_BloomGrows.l0
   repeat' first
   | (with_reducible exact ih0 _ _ _ _ _)
   | (with_reducible exact ih1 _ _ _ _ _ _)
   | (with_reducible exact cellaretlaw7_awake.mono _)
   | (with_reducible exact LeO.refl _)
   | (with_reducible exact LeO.none _)
   | (with_reducible refine LeO.ite ?_ ?_)
   | (with_reducible refine LeO.bind ?_ (fun _ => ?_))
   | exact ih0 _ _ _ _ _
   | exact ih1 _ _ _ _ _ _
   | exact cellaretlaw7_awake.mono _
   | exact LeO.none _
   | refine LeO.ite ?_ ?_
   | refine LeO.bind ?_ (fun _ => ?_)
theorem cellaretlaw7_BloomGrows.mono : ∀ a0 a1 a2 k, LeO (cellaretlaw7_BloomGrows.f k a0 a1 a2) (cellaretlaw7_BloomGrows.f (k + 1) a0 a1 a2) := by
 intro a0 a1 a2 k
 obtain ⟨ih0, ih1⟩ := cellaretlaw7_BloomGrows.mono_l k
 unfold cellaretlaw7_BloomGrows.f
 repeat' first
   | (with_reducible exact ih0 _ _ _ _ _)
   | (with_reducible exact ih1 _ _ _ _ _ _)
   | (with_reducible exact cellaretlaw7_awake.mono _)
   | (with_reducible exact LeO.refl _)
   | (with_reducible exact LeO.none _)
   | (with_reducible refine LeO.ite ?_ ?_)
   | (with_reducible refine LeO.bind ?_ (fun _ => ?_))
   | exact ih0 _ _ _ _ _
   | exact ih1 _ _ _ _ _ _
   | exact cellaretlaw7_awake.mono _
   | exact LeO.none _
   | refine LeO.ite ?_ ?_
   | refine LeO.bind ?_ (fun _ => ?_)
set_option maxHeartbeats 8000000 in
set_option maxRecDepth 100000 in
theorem cellaretlaw7_BloomGrows.calls (k : Nat) (a0 : Int) (a1 : Int) (A2 : Option Addr) (c2 : Nat) (l2 : List ByteArray) (r : Bool) (w : World) (hr2 : Kd.C Kd.string w A2 l2.length l2) (hc2 : l2.length ≤ c2) (h : cellaretlaw7_BloomGrows.f k a0 a1 l2 = some r) :
  Calls Try.prog 14 #[.int .i64 a0, .int .i64 a1, .slice A2 l2.length c2] w fun e w' => e = .returned (.bool r) ∧ Below w.heap.size w w' := by
 have HR2 := Aside0.mk hr2
 have HC2 := Aside0.mk hc2
 clear hr2 hc2
 have HB := Aside0.mk (Below.refl w.heap.size w)
 have H : ((cellaretlaw7_awake.f k).bind fun t213 => (if t213 = true then ((bloom_New.f a0 a1).bind fun bt214 => (if 0 = 0 then (cellaretlaw7_BloomGrows.j0 k a1 l2 (decide ((l2.length : Int) > 60)) bt214.1 bt214.2) else (cellaretlaw7_BloomGrows.j0 k a1 l2 true bt214.1 bt214.2))) else (some false))) = some r := h
 clear h
 replace H := Option.bind_eq_some_iff.mp H
 obtain ⟨t213, A40, H⟩ := H
 replace H : (if t213 = true then ((bloom_New.f a0 a1).bind fun bt214 => (if 0 = 0 then (cellaretlaw7_BloomGrows.j0 k a1 l2 (decide ((l2.length : Int) > 60)) bt214.1 bt214.2) else (cellaretlaw7_BloomGrows.j0 k a1 l2 true bt214.1 bt214.2))) else (some false)) = some r := H
 have A4 := Aside0.mk A40
 clear A40
 by_cases c5 : t213 = true
 ·subst c5
  have H1 : ((bloom_New.f a0 a1).bind fun bt214 => (if 0 = 0 then (cellaretlaw7_BloomGrows.j0 k a1 l2 (decide ((l2.length : Int) > 60)) bt214.1 bt214.2) else (cellaretlaw7_BloomGrows.j0 k a1 l2 true bt214.1 bt214.2))) = some r := by rw [if_pos rfl] at H; exact H
  clear H
  have H := H1
  clear H1
  replace H := Option.bind_eq_some_iff.mp H
  obtain ⟨⟨t214, t215⟩, A60, H⟩ := H
  replace H : (if 0 = 0 then (cellaretlaw7_BloomGrows.j0 k a1 l2 (decide ((l2.length : Int) > 60)) t214 t215) else (cellaretlaw7_BloomGrows.j0 k a1 l2 true t214 t215)) = some r := H
  have A6 := Aside0.mk A60
  clear A60
  have HC7 := Aside0.mk H
  clear H
  go_enter Try.func14, Try.ntmps14
  go_upto_region 4 with (first | ((with_reducible refine gate_callee (f := 30) rfl ?_); refine goesL_ (some 13) rfl rfl Try.func30 (by kernel_rfl) rfl #[] rfl (by (try simp only [List.map_toArray, List.map_cons, List.map_nil]); first | done | rfl | (simp only [List.length_drop, List.length_take]; rfl) | (go_simp; done) | (go_simp; rfl)) ?_; (with_reducible refine (cellaretlaw7_awake.calls k  true _ A4.out).mono ?_); rintro e w8 ⟨rfl, hb⟩; refine ⟨_, rfl, ?_⟩; have n0_ := Aside0.mk (below_step (by repeat (first | (with_reducible first | exact HB.out | apply below_alloc | apply pw_below_drewN | apply below_drew1) | exact HB.out)) hb); clear HB; have HB := n0_; clear n0_; (try clear hb); (try clear hb2); (try clear hk); (try clear hi)) | ((with_reducible refine gate_callee (f := 31) rfl ?_); refine goesL_ (some 18) rfl rfl Try.func31 (by kernel_rfl) rfl #[.int .i64 a0, .int .i64 a1] rfl (by (try simp only [List.map_toArray, List.map_cons, List.map_nil]); first | done | rfl | (simp only [List.length_drop, List.length_take]; rfl) | (go_simp; done) | (go_simp; rfl)) ?_; (with_reducible refine (bloom_New.calls a0 a1 t214 t215 w _ ?side1 A6.out).mono ?_); (case side1 => repeat (first | (with_reducible first | exact HB.out | apply below_alloc | apply pw_below_drewN | apply below_drew1) | exact HB.out)); rintro e w9 ⟨g216, rfl, hi, hb, hb2⟩; refine ⟨_, rfl, ?_⟩; have n0_ := Aside0.mk (hb); have n1_ := Aside0.mk (hi); clear HB; have HB := n0_; have HI216 := n1_; clear n0_ n1_; (try clear hb); (try clear hb2); (try clear hk); (try clear hi)))
  (try simp only [Act.put, List.setIfInBounds_toArray, List.set_cons_zero, List.set_cons_succ])
  go_cut [27] (fun v27 wc => ∃ (kq : Nat) (x27_6 : Bool), v27 = .bool x27_6 ∧ Aside0 (cellaretlaw7_BloomGrows.j0 kq a1 l2 x27_6 t214 t215 = some r) ∧ Aside0 (kq ≤ k) ∧ Aside0 (IsS76 w wc g216 t214 t215) ∧ Aside0 (Below w.heap.size w wc))
  case first =>
   have H := HC7.out
   clear HC7
   by_cases c10 : 0 = 0
   ·rw [if_pos c10] at H
    have c10b0 : (0 == 0) = true := beq_iff_eq.mpr c10
    have c10b1 : (0 != 0) = false := bne_eq_false_iff_eq.mpr c10
    clear c10
    (first | rw [c10b0] | (simp only [i64_w, i32_w]; rw [c10b0]) | skip)
    have H' := Aside0.mk H
    clear H
    go_wp2
    go_meet
    case rel => exact ⟨_, (decide ((l2.length : Int) > 60)), (by first | rfl | (simp; done) | (simp [*]; done)), H', ⟨by first | omega | exact Nat.le_refl _⟩, ⟨by repeat (first | (with_reducible first | exact HI216.out | apply IsS76.alloc | apply IsS76.drewN | apply IsS76.drew) | exact HI216.out)⟩, ⟨by repeat (first | (with_reducible first | exact HB.out | apply below_alloc | apply pw_below_drewN | apply below_drew1 | refine below_set ?_ (IsS76.ge HI216.out)) | exact HB.out)⟩⟩
   ·exact absurd rfl c10
  case rest =>
   clear HC7
   try clear c1
   try clear c2
   try clear p2
   try clear c3
   try clear c5
   try clear c10
   try clear c10b0
   try clear c10b1
   obtain ⟨kq, x27_6, rfl, HA, HJ6, HI216, HB⟩ := hcut
   cases kq with
   | zero => exact absurd HA.out (by simp [cellaretlaw7_BloomGrows.j0])
   | succ kj6 =>
    have H := HA.out
    clear HA
    simp only [cellaretlaw7_BloomGrows.j0] at H
    by_cases c11 : x27_6 = true
    ·subst c11
     have H1 : (some true) = some r := by rw [if_pos rfl] at H; exact H
     clear H
     have H := H1
     clear H1
     obtain rfl := Option.some.inj H
     go_wp2
     go_ret
     exact ⟨by first | rfl | (simp [errW_none, errW_some] <;> rfl) | (simp [*, errW_none, errW_some] <;> rfl), by repeat (first | (with_reducible first | exact HB.out | apply below_alloc | apply pw_below_drewN | apply below_drew1 | refine below_set ?_ (IsS76.ge HI216.out)) | exact HB.out)⟩
    ·replace c11 := Bool.eq_false_iff.mpr c11
     subst c11
     have H1 : (cellaretlaw7_BloomGrows.l0 kj6 a1 l2 0 0 t214 t215) = some r := by rw [if_neg (show ¬ (false = true) by decide)] at H; exact H
     clear H
     have H := H1
     clear H1
     have H' := Aside0.mk H
     clear H
     go_wp2
     go_loopg [9, 10] kj6 (fun kq v9 v10 w' => ∃ (x9_2 : Int) (x10_2 : Int) (x217000_2 : List Bool) (x217001_2 : Int), v9 = .int .i64 x9_2 ∧ v10 = .int .i64 x10_2 ∧ Aside0 (cellaretlaw7_BloomGrows.l0 kq a1 l2 x9_2 x10_2 x217000_2 x217001_2 = some r) ∧ Aside0 (kq ≤ kj6) ∧ Aside0 (IsS76 w w' g216 x217000_2 x217001_2) ∧ Aside0 (Below w.heap.size w w'))
     case atStart => exact ⟨(0), (0), (t214), (t215), (by first | rfl | (simp; done) | (simp [*]; done)), (by first | rfl | (simp; done) | (simp [*]; done)), H', ⟨Nat.le_refl _⟩, ⟨by repeat (first | (with_reducible first | exact HI216.out | apply IsS76.alloc | apply IsS76.drewN | apply IsS76.drew) | exact HI216.out)⟩, ⟨by repeat (first | (with_reducible first | exact HB.out | apply below_alloc | apply pw_below_drewN | apply below_drew1 | refine below_set ?_ (IsS76.ge HI216.out)) | exact HB.out)⟩⟩
     case round =>
      clear H'
      try clear c1
      try clear c2
      try clear p2
      try clear c3
      try clear c5
      try clear c10
      try clear c10b0
      try clear c10b1
      try clear c11
      try clear p2
      obtain ⟨x9_2, x10_2, x217000_2, x217001_2, rfl, rfl, HA, HK2, HI216, HB⟩ := hrel
      cases gk with
      | zero => exact absurd HA.out (by simp [cellaretlaw7_BloomGrows.l0])
      | succ k2 =>
       have H := HA.out
       clear HA
       simp only [cellaretlaw7_BloomGrows.l0] at H
       by_cases c12 : x10_2 < (l2.length : Int)
       ·rw [if_pos c12] at H
        have c12b0 : decide (x10_2 < (l2.length : Int)) = true := decide_eq_true c12
        clear c12
        by_cases c13 : 0 ≤ x10_2
        ·rw [if_pos c13] at H
         have c13b0 : decide (0 ≤ x10_2) = true := decide_eq_true c13
         clear c13
         replace H := Option.bind_eq_some_iff.mp H
         obtain ⟨⟨t218, t219, t220⟩, A140, H⟩ := H
         replace H : ((bloom_Filter_Add.f t219 t220 (rdOf ByteArray.empty l2 x10_2)).bind fun bt222 => ((bloom_Filter_Count.f bt222.1 bt222.2).bind fun bt224 => (if bt224.1 < x9_2 then (some false) else (if bt224.1 > (wrap64 (x9_2 + a1)) then (some false) else (if t218 = true then (if bt224.1 = x9_2 then (cellaretlaw7_BloomGrows.l0 k2 a1 l2 bt224.1 (wrap64 (x10_2 + 1)) bt224.2.1 bt224.2.2) else (some false)) else (if bt224.1 = x9_2 then (some false) else (cellaretlaw7_BloomGrows.l0 k2 a1 l2 bt224.1 (wrap64 (x10_2 + 1)) bt224.2.1 bt224.2.2))))))) = some r := H
         have A14 := Aside0.mk A140
         clear A140
         replace H := Option.bind_eq_some_iff.mp H
         obtain ⟨⟨t222, t223⟩, A150, H⟩ := H
         replace H : ((bloom_Filter_Count.f t222 t223).bind fun bt224 => (if bt224.1 < x9_2 then (some false) else (if bt224.1 > (wrap64 (x9_2 + a1)) then (some false) else (if t218 = true then (if bt224.1 = x9_2 then (cellaretlaw7_BloomGrows.l0 k2 a1 l2 bt224.1 (wrap64 (x10_2 + 1)) bt224.2.1 bt224.2.2) else (some false)) else (if bt224.1 = x9_2 then (some false) else (cellaretlaw7_BloomGrows.l0 k2 a1 l2 bt224.1 (wrap64 (x10_2 + 1)) bt224.2.1 bt224.2.2)))))) = some r := H
         have A15 := Aside0.mk A150
         clear A150
         replace H := Option.bind_eq_some_iff.mp H
         obtain ⟨⟨t224, t225, t226⟩, A160, H⟩ := H
         replace H : (if t224 < x9_2 then (some false) else (if t224 > (wrap64 (x9_2 + a1)) then (some false) else (if t218 = true then (if t224 = x9_2 then (cellaretlaw7_BloomGrows.l0 k2 a1 l2 t224 (wrap64 (x10_2 + 1)) t225 t226) else (some false)) else (if t224 = x9_2 then (some false) else (cellaretlaw7_BloomGrows.l0 k2 a1 l2 t224 (wrap64 (x10_2 + 1)) t225 t226))))) = some r := H
         have A16 := Aside0.mk A160
         clear A160
         by_cases c17 : t224 < x9_2
         ·rw [if_pos c17] at H
          have c17b0 : decide (t224 < x9_2) = true := decide_eq_true c17
          clear c17
          obtain rfl := Option.some.inj H
          have p217 : 0 ≤ (x10_2 : Int) := of_decide_eq_true (by first | (with_reducible assumption) | assumption)
          have q217 : x10_2 < (l2.length : Int) := of_decide_eq_true (by first | (with_reducible assumption) | assumption)
          obtain ⟨ad217, e217, hx217_0⟩ := Kd.at_string HR2.out x10_2 p217 q217
          cases e217
          replace hx217_0 := (HB.out.cell (World.block_lt_of_cell? w _ hx217_0)).trans hx217_0
          replace p217 := eq_true p217
          replace q217 := eq_true q217
          go_wp2_with (first | ((with_reducible refine gate_callee (f := 36) rfl ?_); refine goesL_ (some 39) rfl rfl Try.func36 (by kernel_rfl) rfl #[.pointer (some ⟨g216, 0, none⟩), .string (rdOf ByteArray.empty l2 x10_2)] rfl (by (try simp only [List.map_toArray, List.map_cons, List.map_nil]); first | done | rfl | (simp only [List.length_drop, List.length_take]; rfl) | (go_simp; done) | (go_simp; rfl)) ?_; (with_reducible refine (bloom_Filter_May.calls g216 x217000_2 x217001_2 (rdOf ByteArray.empty l2 x10_2) t218 t219 t220 w _ ?side1 ?side2 A14.out).mono ?_); (case side1 => repeat (first | (with_reducible first | exact HI216.out | apply IsS76.alloc | apply IsS76.drewN | apply IsS76.drew) | exact HI216.out)); (case side2 => repeat (first | (with_reducible first | exact HB.out | apply below_alloc | apply pw_below_drewN | apply below_drew1 | refine below_set ?_ (IsS76.ge HI216.out)) | exact HB.out)); rintro e w18 ⟨rfl, hi, hb, hk⟩; refine ⟨_, rfl, ?_⟩; have n0_ := Aside0.mk (hb); have n1_ := Aside0.mk (hi); clear HB; clear HI216; have HB := n0_; have HI216 := n1_; clear n0_ n1_; (try clear hb); (try clear hb2); (try clear hk); (try clear hi); have p221 : 0 ≤ (x10_2 : Int) := of_decide_eq_true (by first | (with_reducible assumption) | assumption); have q221 : x10_2 < (l2.length : Int) := of_decide_eq_true (by first | (with_reducible assumption) | assumption); obtain ⟨ad221, e221, hx221_0⟩ := Kd.at_string HR2.out x10_2 p221 q221; obtain rfl : ad217 = ad221 := (by injection e221); replace hx221_0 := (HB.out.cell (World.block_lt_of_cell? w _ hx221_0)).trans hx221_0; replace p221 := eq_true p221; replace q221 := eq_true q221) | ((with_reducible refine gate_callee (f := 32) rfl ?_); refine goesL_ (some 45) rfl rfl Try.func32 (by kernel_rfl) rfl #[.pointer (some ⟨g216, 0, none⟩), .string (rdOf ByteArray.empty l2 x10_2)] rfl (by (try simp only [List.map_toArray, List.map_cons, List.map_nil]); first | done | rfl | (simp only [List.length_drop, List.length_take]; rfl) | (go_simp; done) | (go_simp; rfl)) ?_; (with_reducible refine (bloom_Filter_Add.calls g216 t219 t220 (rdOf ByteArray.empty l2 x10_2) t222 t223 w _ ?side1 ?side2 A15.out).mono ?_); (case side1 => repeat (first | (with_reducible first | exact HI216.out | apply IsS76.alloc | apply IsS76.drewN | apply IsS76.drew) | exact HI216.out)); (case side2 => repeat (first | (with_reducible first | exact HB.out | apply below_alloc | apply pw_below_drewN | apply below_drew1 | refine below_set ?_ (IsS76.ge HI216.out)) | exact HB.out)); rintro e w19 ⟨rfl, hi, hb, hk⟩; refine ⟨_, rfl, ?_⟩; have n0_ := Aside0.mk (hb); have n1_ := Aside0.mk (hi); clear HB; clear HI216; have HB := n0_; have HI216 := n1_; clear n0_ n1_; (try clear hb); (try clear hb2); (try clear hk); (try clear hi)) | ((with_reducible refine gate_callee (f := 35) rfl ?_); refine goesL_ (some 47) rfl rfl Try.func35 (by kernel_rfl) rfl #[.pointer (some ⟨g216, 0, none⟩)] rfl (by (try simp only [List.map_toArray, List.map_cons, List.map_nil]); first | done | rfl | (simp only [List.length_drop, List.length_take]; rfl) | (go_simp; done) | (go_simp; rfl)) ?_; (with_reducible refine (bloom_Filter_Count.calls g216 t222 t223 t224 t225 t226 w _ ?side1 ?side2 A16.out).mono ?_); (case side1 => repeat (first | (with_reducible first | exact HI216.out | apply IsS76.alloc | apply IsS76.drewN | apply IsS76.drew) | exact HI216.out)); (case side2 => repeat (first | (with_reducible first | exact HB.out | apply below_alloc | apply pw_below_drewN | apply below_drew1 | refine below_set ?_ (IsS76.ge HI216.out)) | exact HB.out)); rintro e w20 ⟨rfl, hi, hb, hk⟩; refine ⟨_, rfl, ?_⟩; have n0_ := Aside0.mk (hb); have n1_ := Aside0.mk (hi); clear HB; clear HI216; have HB := n0_; have HI216 := n1_; clear n0_ n1_; (try clear hb); (try clear hb2); (try clear hk); (try clear hi)))
          go_ret
          exact ⟨by first | rfl | (simp [errW_none, errW_some] <;> rfl) | (simp [*, errW_none, errW_some] <;> rfl), by repeat (first | (with_reducible first | exact HB.out | apply below_alloc | apply pw_below_drewN | apply below_drew1 | refine below_set ?_ (IsS76.ge HI216.out)) | exact HB.out)⟩
         ·rw [if_neg c17] at H
          have c17b0 : decide (t224 < x9_2) = false := decide_eq_false c17
          clear c17
          by_cases c21 : t224 > (wrap64 (x9_2 + a1))
          ·rw [if_pos c21] at H
           have c21b0 : decide ((wrap64 (x9_2 + a1)) < t224) = true := decide_eq_true c21
           clear c21
           obtain rfl := Option.some.inj H
           have p217 : 0 ≤ (x10_2 : Int) := of_decide_eq_true (by first | (with_reducible assumption) | assumption)
           have q217 : x10_2 < (l2.length : Int) := of_decide_eq_true (by first | (with_reducible assumption) | assumption)
           obtain ⟨ad217, e217, hx217_0⟩ := Kd.at_string HR2.out x10_2 p217 q217
           cases e217
           replace hx217_0 := (HB.out.cell (World.block_lt_of_cell? w _ hx217_0)).trans hx217_0
           replace p217 := eq_true p217
           replace q217 := eq_true q217
           go_wp2_with (first | ((with_reducible refine gate_callee (f := 36) rfl ?_); refine goesL_ (some 39) rfl rfl Try.func36 (by kernel_rfl) rfl #[.pointer (some ⟨g216, 0, none⟩), .string (rdOf ByteArray.empty l2 x10_2)] rfl (by (try simp only [List.map_toArray, List.map_cons, List.map_nil]); first | done | rfl | (simp only [List.length_drop, List.length_take]; rfl) | (go_simp; done) | (go_simp; rfl)) ?_; (with_reducible refine (bloom_Filter_May.calls g216 x217000_2 x217001_2 (rdOf ByteArray.empty l2 x10_2) t218 t219 t220 w _ ?side1 ?side2 A14.out).mono ?_); (case side1 => repeat (first | (with_reducible first | exact HI216.out | apply IsS76.alloc | apply IsS76.drewN | apply IsS76.drew) | exact HI216.out)); (case side2 => repeat (first | (with_reducible first | exact HB.out | apply below_alloc | apply pw_below_drewN | apply below_drew1 | refine below_set ?_ (IsS76.ge HI216.out)) | exact HB.out)); rintro e w22 ⟨rfl, hi, hb, hk⟩; refine ⟨_, rfl, ?_⟩; have n0_ := Aside0.mk (hb); have n1_ := Aside0.mk (hi); clear HB; clear HI216; have HB := n0_; have HI216 := n1_; clear n0_ n1_; (try clear hb); (try clear hb2); (try clear hk); (try clear hi); have p221 : 0 ≤ (x10_2 : Int) := of_decide_eq_true (by first | (with_reducible assumption) | assumption); have q221 : x10_2 < (l2.length : Int) := of_decide_eq_true (by first | (with_reducible assumption) | assumption); obtain ⟨ad221, e221, hx221_0⟩ := Kd.at_string HR2.out x10_2 p221 q221; obtain rfl : ad217 = ad221 := (by injection e221); replace hx221_0 := (HB.out.cell (World.block_lt_of_cell? w _ hx221_0)).trans hx221_0; replace p221 := eq_true p221; replace q221 := eq_true q221) | ((with_reducible refine gate_callee (f := 32) rfl ?_); refine goesL_ (some 45) rfl rfl Try.func32 (by kernel_rfl) rfl #[.pointer (some ⟨g216, 0, none⟩), .string (rdOf ByteArray.empty l2 x10_2)] rfl (by (try simp only [List.map_toArray, List.map_cons, List.map_nil]); first | done | rfl | (simp only [List.length_drop, List.length_take]; rfl) | (go_simp; done) | (go_simp; rfl)) ?_; (with_reducible refine (bloom_Filter_Add.calls g216 t219 t220 (rdOf ByteArray.empty l2 x10_2) t222 t223 w _ ?side1 ?side2 A15.out).mono ?_); (case side1 => repeat (first | (with_reducible first | exact HI216.out | apply IsS76.alloc | apply IsS76.drewN | apply IsS76.drew) | exact HI216.out)); (case side2 => repeat (first | (with_reducible first | exact HB.out | apply below_alloc | apply pw_below_drewN | apply below_drew1 | refine below_set ?_ (IsS76.ge HI216.out)) | exact HB.out)); rintro e w23 ⟨rfl, hi, hb, hk⟩; refine ⟨_, rfl, ?_⟩; have n0_ := Aside0.mk (hb); have n1_ := Aside0.mk (hi); clear HB; clear HI216; have HB := n0_; have HI216 := n1_; clear n0_ n1_; (try clear hb); (try clear hb2); (try clear hk); (try clear hi)) | ((with_reducible refine gate_callee (f := 35) rfl ?_); refine goesL_ (some 47) rfl rfl Try.func35 (by kernel_rfl) rfl #[.pointer (some ⟨g216, 0, none⟩)] rfl (by (try simp only [List.map_toArray, List.map_cons, List.map_nil]); first | done | rfl | (simp only [List.length_drop, List.length_take]; rfl) | (go_simp; done) | (go_simp; rfl)) ?_; (with_reducible refine (bloom_Filter_Count.calls g216 t222 t223 t224 t225 t226 w _ ?side1 ?side2 A16.out).mono ?_); (case side1 => repeat (first | (with_reducible first | exact HI216.out | apply IsS76.alloc | apply IsS76.drewN | apply IsS76.drew) | exact HI216.out)); (case side2 => repeat (first | (with_reducible first | exact HB.out | apply below_alloc | apply pw_below_drewN | apply below_drew1 | refine below_set ?_ (IsS76.ge HI216.out)) | exact HB.out)); rintro e w24 ⟨rfl, hi, hb, hk⟩; refine ⟨_, rfl, ?_⟩; have n0_ := Aside0.mk (hb); have n1_ := Aside0.mk (hi); clear HB; clear HI216; have HB := n0_; have HI216 := n1_; clear n0_ n1_; (try clear hb); (try clear hb2); (try clear hk); (try clear hi)))
           go_ret
           exact ⟨by first | rfl | (simp [errW_none, errW_some] <;> rfl) | (simp [*, errW_none, errW_some] <;> rfl), by repeat (first | (with_reducible first | exact HB.out | apply below_alloc | apply pw_below_drewN | apply below_drew1 | refine below_set ?_ (IsS76.ge HI216.out)) | exact HB.out)⟩
          ·rw [if_neg c21] at H
           have c21b0 : decide ((wrap64 (x9_2 + a1)) < t224) = false := decide_eq_false c21
           clear c21
           by_cases c25 : t218 = true
           ·subst c25
            have H1 : (if t224 = x9_2 then (cellaretlaw7_BloomGrows.l0 k2 a1 l2 t224 (wrap64 (x10_2 + 1)) t225 t226) else (some false)) = some r := by rw [if_pos rfl] at H; exact H
            clear H
            have H := H1
            clear H1
            by_cases c26 : t224 = x9_2
            ·rw [if_pos c26] at H
             have c26b0 : (t224 == x9_2) = true := beq_iff_eq.mpr c26
             have c26b1 : (t224 != x9_2) = false := bne_eq_false_iff_eq.mpr c26
             clear c26
             have H' := Aside0.mk H
             clear H
             have p217 : 0 ≤ (x10_2 : Int) := of_decide_eq_true (by first | (with_reducible assumption) | assumption)
             have q217 : x10_2 < (l2.length : Int) := of_decide_eq_true (by first | (with_reducible assumption) | assumption)
             obtain ⟨ad217, e217, hx217_0⟩ := Kd.at_string HR2.out x10_2 p217 q217
             cases e217
             replace hx217_0 := (HB.out.cell (World.block_lt_of_cell? w _ hx217_0)).trans hx217_0
             replace p217 := eq_true p217
             replace q217 := eq_true q217
             go_wp2_with (first | ((with_reducible refine gate_callee (f := 36) rfl ?_); refine goesL_ (some 39) rfl rfl Try.func36 (by kernel_rfl) rfl #[.pointer (some ⟨g216, 0, none⟩), .string (rdOf ByteArray.empty l2 x10_2)] rfl (by (try simp only [List.map_toArray, List.map_cons, List.map_nil]); first | done | rfl | (simp only [List.length_drop, List.length_take]; rfl) | (go_simp; done) | (go_simp; rfl)) ?_; (with_reducible refine (bloom_Filter_May.calls g216 x217000_2 x217001_2 (rdOf ByteArray.empty l2 x10_2) true t219 t220 w _ ?side1 ?side2 A14.out).mono ?_); (case side1 => repeat (first | (with_reducible first | exact HI216.out | apply IsS76.alloc | apply IsS76.drewN | apply IsS76.drew) | exact HI216.out)); (case side2 => repeat (first | (with_reducible first | exact HB.out | apply below_alloc | apply pw_below_drewN | apply below_drew1 | refine below_set ?_ (IsS76.ge HI216.out)) | exact HB.out)); rintro e w27 ⟨rfl, hi, hb, hk⟩; refine ⟨_, rfl, ?_⟩; have n0_ := Aside0.mk (hb); have n1_ := Aside0.mk (hi); clear HB; clear HI216; have HB := n0_; have HI216 := n1_; clear n0_ n1_; (try clear hb); (try clear hb2); (try clear hk); (try clear hi); have p221 : 0 ≤ (x10_2 : Int) := of_decide_eq_true (by first | (with_reducible assumption) | assumption); have q221 : x10_2 < (l2.length : Int) := of_decide_eq_true (by first | (with_reducible assumption) | assumption); obtain ⟨ad221, e221, hx221_0⟩ := Kd.at_string HR2.out x10_2 p221 q221; obtain rfl : ad217 = ad221 := (by injection e221); replace hx221_0 := (HB.out.cell (World.block_lt_of_cell? w _ hx221_0)).trans hx221_0; replace p221 := eq_true p221; replace q221 := eq_true q221) | ((with_reducible refine gate_callee (f := 32) rfl ?_); refine goesL_ (some 45) rfl rfl Try.func32 (by kernel_rfl) rfl #[.pointer (some ⟨g216, 0, none⟩), .string (rdOf ByteArray.empty l2 x10_2)] rfl (by (try simp only [List.map_toArray, List.map_cons, List.map_nil]); first | done | rfl | (simp only [List.length_drop, List.length_take]; rfl) | (go_simp; done) | (go_simp; rfl)) ?_; (with_reducible refine (bloom_Filter_Add.calls g216 t219 t220 (rdOf ByteArray.empty l2 x10_2) t222 t223 w _ ?side1 ?side2 A15.out).mono ?_); (case side1 => repeat (first | (with_reducible first | exact HI216.out | apply IsS76.alloc | apply IsS76.drewN | apply IsS76.drew) | exact HI216.out)); (case side2 => repeat (first | (with_reducible first | exact HB.out | apply below_alloc | apply pw_below_drewN | apply below_drew1 | refine below_set ?_ (IsS76.ge HI216.out)) | exact HB.out)); rintro e w28 ⟨rfl, hi, hb, hk⟩; refine ⟨_, rfl, ?_⟩; have n0_ := Aside0.mk (hb); have n1_ := Aside0.mk (hi); clear HB; clear HI216; have HB := n0_; have HI216 := n1_; clear n0_ n1_; (try clear hb); (try clear hb2); (try clear hk); (try clear hi)) | ((with_reducible refine gate_callee (f := 35) rfl ?_); refine goesL_ (some 47) rfl rfl Try.func35 (by kernel_rfl) rfl #[.pointer (some ⟨g216, 0, none⟩)] rfl (by (try simp only [List.map_toArray, List.map_cons, List.map_nil]); first | done | rfl | (simp only [List.length_drop, List.length_take]; rfl) | (go_simp; done) | (go_simp; rfl)) ?_; (with_reducible refine (bloom_Filter_Count.calls g216 t222 t223 t224 t225 t226 w _ ?side1 ?side2 A16.out).mono ?_); (case side1 => repeat (first | (with_reducible first | exact HI216.out | apply IsS76.alloc | apply IsS76.drewN | apply IsS76.drew) | exact HI216.out)); (case side2 => repeat (first | (with_reducible first | exact HB.out | apply below_alloc | apply pw_below_drewN | apply below_drew1 | refine below_set ?_ (IsS76.ge HI216.out)) | exact HB.out)); rintro e w29 ⟨rfl, hi, hb, hk⟩; refine ⟨_, rfl, ?_⟩; have n0_ := Aside0.mk (hb); have n1_ := Aside0.mk (hi); clear HB; clear HI216; have HB := n0_; have HI216 := n1_; clear n0_ n1_; (try clear hb); (try clear hb2); (try clear hk); (try clear hi)))
             go_roundg k2
             case measure => have := HJ6.out; have := HK2.out; omega
             case rel => exact ⟨(t224), (wrap64 (x10_2 + 1)), (t225), (t226), (by first | rfl | (simp; done) | (simp [*]; done)), (by first | rfl | (simp; done) | (simp [*]; done)), H', ⟨by have := HJ6.out; have := HK2.out; omega⟩, ⟨by repeat (first | (with_reducible first | exact HI216.out | apply IsS76.alloc | apply IsS76.drewN | apply IsS76.drew) | exact HI216.out)⟩, ⟨by repeat (first | (with_reducible first | exact HB.out | apply below_alloc | apply pw_below_drewN | apply below_drew1 | refine below_set ?_ (IsS76.ge HI216.out)) | exact HB.out)⟩⟩
            ·rw [if_neg c26] at H
             have c26b0 : (t224 == x9_2) = false := beq_eq_false_iff_ne.mpr c26
             have c26b1 : (t224 != x9_2) = true := bne_iff_ne.mpr c26
             obtain rfl := Option.some.inj H
             have p217 : 0 ≤ (x10_2 : Int) := of_decide_eq_true (by first | (with_reducible assumption) | assumption)
             have q217 : x10_2 < (l2.length : Int) := of_decide_eq_true (by first | (with_reducible assumption) | assumption)
             obtain ⟨ad217, e217, hx217_0⟩ := Kd.at_string HR2.out x10_2 p217 q217
             cases e217
             replace hx217_0 := (HB.out.cell (World.block_lt_of_cell? w _ hx217_0)).trans hx217_0
             replace p217 := eq_true p217
             replace q217 := eq_true q217
             go_wp2_with (first | ((with_reducible refine gate_callee (f := 36) rfl ?_); refine goesL_ (some 39) rfl rfl Try.func36 (by kernel_rfl) rfl #[.pointer (some ⟨g216, 0, none⟩), .string (rdOf ByteArray.empty l2 x10_2)] rfl (by (try simp only [List.map_toArray, List.map_cons, List.map_nil]); first | done | rfl | (simp only [List.length_drop, List.length_take]; rfl) | (go_simp; done) | (go_simp; rfl)) ?_; (with_reducible refine (bloom_Filter_May.calls g216 x217000_2 x217001_2 (rdOf ByteArray.empty l2 x10_2) true t219 t220 w _ ?side1 ?side2 A14.out).mono ?_); (case side1 => repeat (first | (with_reducible first | exact HI216.out | apply IsS76.alloc | apply IsS76.drewN | apply IsS76.drew) | exact HI216.out)); (case side2 => repeat (first | (with_reducible first | exact HB.out | apply below_alloc | apply pw_below_drewN | apply below_drew1 | refine below_set ?_ (IsS76.ge HI216.out)) | exact HB.out)); rintro e w30 ⟨rfl, hi, hb, hk⟩; refine ⟨_, rfl, ?_⟩; have n0_ := Aside0.mk (hb); have n1_ := Aside0.mk (hi); clear HB; clear HI216; have HB := n0_; have HI216 := n1_; clear n0_ n1_; (try clear hb); (try clear hb2); (try clear hk); (try clear hi); have p221 : 0 ≤ (x10_2 : Int) := of_decide_eq_true (by first | (with_reducible assumption) | assumption); have q221 : x10_2 < (l2.length : Int) := of_decide_eq_true (by first | (with_reducible assumption) | assumption); obtain ⟨ad221, e221, hx221_0⟩ := Kd.at_string HR2.out x10_2 p221 q221; obtain rfl : ad217 = ad221 := (by injection e221); replace hx221_0 := (HB.out.cell (World.block_lt_of_cell? w _ hx221_0)).trans hx221_0; replace p221 := eq_true p221; replace q221 := eq_true q221) | ((with_reducible refine gate_callee (f := 32) rfl ?_); refine goesL_ (some 45) rfl rfl Try.func32 (by kernel_rfl) rfl #[.pointer (some ⟨g216, 0, none⟩), .string (rdOf ByteArray.empty l2 x10_2)] rfl (by (try simp only [List.map_toArray, List.map_cons, List.map_nil]); first | done | rfl | (simp only [List.length_drop, List.length_take]; rfl) | (go_simp; done) | (go_simp; rfl)) ?_; (with_reducible refine (bloom_Filter_Add.calls g216 t219 t220 (rdOf ByteArray.empty l2 x10_2) t222 t223 w _ ?side1 ?side2 A15.out).mono ?_); (case side1 => repeat (first | (with_reducible first | exact HI216.out | apply IsS76.alloc | apply IsS76.drewN | apply IsS76.drew) | exact HI216.out)); (case side2 => repeat (first | (with_reducible first | exact HB.out | apply below_alloc | apply pw_below_drewN | apply below_drew1 | refine below_set ?_ (IsS76.ge HI216.out)) | exact HB.out)); rintro e w31 ⟨rfl, hi, hb, hk⟩; refine ⟨_, rfl, ?_⟩; have n0_ := Aside0.mk (hb); have n1_ := Aside0.mk (hi); clear HB; clear HI216; have HB := n0_; have HI216 := n1_; clear n0_ n1_; (try clear hb); (try clear hb2); (try clear hk); (try clear hi)) | ((with_reducible refine gate_callee (f := 35) rfl ?_); refine goesL_ (some 47) rfl rfl Try.func35 (by kernel_rfl) rfl #[.pointer (some ⟨g216, 0, none⟩)] rfl (by (try simp only [List.map_toArray, List.map_cons, List.map_nil]); first | done | rfl | (simp only [List.length_drop, List.length_take]; rfl) | (go_simp; done) | (go_simp; rfl)) ?_; (with_reducible refine (bloom_Filter_Count.calls g216 t222 t223 t224 t225 t226 w _ ?side1 ?side2 A16.out).mono ?_); (case side1 => repeat (first | (with_reducible first | exact HI216.out | apply IsS76.alloc | apply IsS76.drewN | apply IsS76.drew) | exact HI216.out)); (case side2 => repeat (first | (with_reducible first | exact HB.out | apply below_alloc | apply pw_below_drewN | apply below_drew1 | refine below_set ?_ (IsS76.ge HI216.out)) | exact HB.out)); rintro e w32 ⟨rfl, hi, hb, hk⟩; refine ⟨_, rfl, ?_⟩; have n0_ := Aside0.mk (hb); have n1_ := Aside0.mk (hi); clear HB; clear HI216; have HB := n0_; have HI216 := n1_; clear n0_ n1_; (try clear hb); (try clear hb2); (try clear hk); (try clear hi)))
             go_ret
             exact ⟨by first | rfl | (simp [errW_none, errW_some] <;> rfl) | (simp [*, errW_none, errW_some] <;> rfl), by repeat (first | (with_reducible first | exact HB.out | apply below_alloc | apply pw_below_drewN | apply below_drew1 | refine below_set ?_ (IsS76.ge HI216.out)) | exact HB.out)⟩
           ·replace c25 := Bool.eq_false_iff.mpr c25
            subst c25
            have H1 : (if t224 = x9_2 then (some false) else (cellaretlaw7_BloomGrows.l0 k2 a1 l2 t224 (wrap64 (x10_2 + 1)) t225 t226)) = some r := by rw [if_neg (show ¬ (false = true) by decide)] at H; exact H
            clear H
            have H := H1
            clear H1
            by_cases c33 : t224 = x9_2
            ·rw [if_pos c33] at H
             have c33b0 : (t224 == x9_2) = true := beq_iff_eq.mpr c33
             have c33b1 : (t224 != x9_2) = false := bne_eq_false_iff_eq.mpr c33
             clear c33
             obtain rfl := Option.some.inj H
             have p217 : 0 ≤ (x10_2 : Int) := of_decide_eq_true (by first | (with_reducible assumption) | assumption)
             have q217 : x10_2 < (l2.length : Int) := of_decide_eq_true (by first | (with_reducible assumption) | assumption)
             obtain ⟨ad217, e217, hx217_0⟩ := Kd.at_string HR2.out x10_2 p217 q217
             cases e217
             replace hx217_0 := (HB.out.cell (World.block_lt_of_cell? w _ hx217_0)).trans hx217_0
             replace p217 := eq_true p217
             replace q217 := eq_true q217
             go_wp2_with (first | ((with_reducible refine gate_callee (f := 36) rfl ?_); refine goesL_ (some 39) rfl rfl Try.func36 (by kernel_rfl) rfl #[.pointer (some ⟨g216, 0, none⟩), .string (rdOf ByteArray.empty l2 x10_2)] rfl (by (try simp only [List.map_toArray, List.map_cons, List.map_nil]); first | done | rfl | (simp only [List.length_drop, List.length_take]; rfl) | (go_simp; done) | (go_simp; rfl)) ?_; (with_reducible refine (bloom_Filter_May.calls g216 x217000_2 x217001_2 (rdOf ByteArray.empty l2 x10_2) false t219 t220 w _ ?side1 ?side2 A14.out).mono ?_); (case side1 => repeat (first | (with_reducible first | exact HI216.out | apply IsS76.alloc | apply IsS76.drewN | apply IsS76.drew) | exact HI216.out)); (case side2 => repeat (first | (with_reducible first | exact HB.out | apply below_alloc | apply pw_below_drewN | apply below_drew1 | refine below_set ?_ (IsS76.ge HI216.out)) | exact HB.out)); rintro e w34 ⟨rfl, hi, hb, hk⟩; refine ⟨_, rfl, ?_⟩; have n0_ := Aside0.mk (hb); have n1_ := Aside0.mk (hi); clear HB; clear HI216; have HB := n0_; have HI216 := n1_; clear n0_ n1_; (try clear hb); (try clear hb2); (try clear hk); (try clear hi); have p221 : 0 ≤ (x10_2 : Int) := of_decide_eq_true (by first | (with_reducible assumption) | assumption); have q221 : x10_2 < (l2.length : Int) := of_decide_eq_true (by first | (with_reducible assumption) | assumption); obtain ⟨ad221, e221, hx221_0⟩ := Kd.at_string HR2.out x10_2 p221 q221; obtain rfl : ad217 = ad221 := (by injection e221); replace hx221_0 := (HB.out.cell (World.block_lt_of_cell? w _ hx221_0)).trans hx221_0; replace p221 := eq_true p221; replace q221 := eq_true q221) | ((with_reducible refine gate_callee (f := 32) rfl ?_); refine goesL_ (some 45) rfl rfl Try.func32 (by kernel_rfl) rfl #[.pointer (some ⟨g216, 0, none⟩), .string (rdOf ByteArray.empty l2 x10_2)] rfl (by (try simp only [List.map_toArray, List.map_cons, List.map_nil]); first | done | rfl | (simp only [List.length_drop, List.length_take]; rfl) | (go_simp; done) | (go_simp; rfl)) ?_; (with_reducible refine (bloom_Filter_Add.calls g216 t219 t220 (rdOf ByteArray.empty l2 x10_2) t222 t223 w _ ?side1 ?side2 A15.out).mono ?_); (case side1 => repeat (first | (with_reducible first | exact HI216.out | apply IsS76.alloc | apply IsS76.drewN | apply IsS76.drew) | exact HI216.out)); (case side2 => repeat (first | (with_reducible first | exact HB.out | apply below_alloc | apply pw_below_drewN | apply below_drew1 | refine below_set ?_ (IsS76.ge HI216.out)) | exact HB.out)); rintro e w35 ⟨rfl, hi, hb, hk⟩; refine ⟨_, rfl, ?_⟩; have n0_ := Aside0.mk (hb); have n1_ := Aside0.mk (hi); clear HB; clear HI216; have HB := n0_; have HI216 := n1_; clear n0_ n1_; (try clear hb); (try clear hb2); (try clear hk); (try clear hi)) | ((with_reducible refine gate_callee (f := 35) rfl ?_); refine goesL_ (some 47) rfl rfl Try.func35 (by kernel_rfl) rfl #[.pointer (some ⟨g216, 0, none⟩)] rfl (by (try simp only [List.map_toArray, List.map_cons, List.map_nil]); first | done | rfl | (simp only [List.length_drop, List.length_take]; rfl) | (go_simp; done) | (go_simp; rfl)) ?_; (with_reducible refine (bloom_Filter_Count.calls g216 t222 t223 t224 t225 t226 w _ ?side1 ?side2 A16.out).mono ?_); (case side1 => repeat (first | (with_reducible first | exact HI216.out | apply IsS76.alloc | apply IsS76.drewN | apply IsS76.drew) | exact HI216.out)); (case side2 => repeat (first | (with_reducible first | exact HB.out | apply below_alloc | apply pw_below_drewN | apply below_drew1 | refine below_set ?_ (IsS76.ge HI216.out)) | exact HB.out)); rintro e w36 ⟨rfl, hi, hb, hk⟩; refine ⟨_, rfl, ?_⟩; have n0_ := Aside0.mk (hb); have n1_ := Aside0.mk (hi); clear HB; clear HI216; have HB := n0_; have HI216 := n1_; clear n0_ n1_; (try clear hb); (try clear hb2); (try clear hk); (try clear hi)))
             go_ret
             exact ⟨by first | rfl | (simp [errW_none, errW_some] <;> rfl) | (simp [*, errW_none, errW_some] <;> rfl), by repeat (first | (with_reducible first | exact HB.out | apply below_alloc | apply pw_below_drewN | apply below_drew1 | refine below_set ?_ (IsS76.ge HI216.out)) | exact HB.out)⟩
            ·rw [if_neg c33] at H
             have c33b0 : (t224 == x9_2) = false := beq_eq_false_iff_ne.mpr c33
             have c33b1 : (t224 != x9_2) = true := bne_iff_ne.mpr c33
             have H' := Aside0.mk H
             clear H
             have p217 : 0 ≤ (x10_2 : Int) := of_decide_eq_true (by first | (with_reducible assumption) | assumption)
             have q217 : x10_2 < (l2.length : Int) := of_decide_eq_true (by first | (with_reducible assumption) | assumption)
             obtain ⟨ad217, e217, hx217_0⟩ := Kd.at_string HR2.out x10_2 p217 q217
             cases e217
             replace hx217_0 := (HB.out.cell (World.block_lt_of_cell? w _ hx217_0)).trans hx217_0
             replace p217 := eq_true p217
             replace q217 := eq_true q217
             go_wp2_with (first | ((with_reducible refine gate_callee (f := 36) rfl ?_); refine goesL_ (some 39) rfl rfl Try.func36 (by kernel_rfl) rfl #[.pointer (some ⟨g216, 0, none⟩), .string (rdOf ByteArray.empty l2 x10_2)] rfl (by (try simp only [List.map_toArray, List.map_cons, List.map_nil]); first | done | rfl | (simp only [List.length_drop, List.length_take]; rfl) | (go_simp; done) | (go_simp; rfl)) ?_; (with_reducible refine (bloom_Filter_May.calls g216 x217000_2 x217001_2 (rdOf ByteArray.empty l2 x10_2) false t219 t220 w _ ?side1 ?side2 A14.out).mono ?_); (case side1 => repeat (first | (with_reducible first | exact HI216.out | apply IsS76.alloc | apply IsS76.drewN | apply IsS76.drew) | exact HI216.out)); (case side2 => repeat (first | (with_reducible first | exact HB.out | apply below_alloc | apply pw_below_drewN | apply below_drew1 | refine below_set ?_ (IsS76.ge HI216.out)) | exact HB.out)); rintro e w37 ⟨rfl, hi, hb, hk⟩; refine ⟨_, rfl, ?_⟩; have n0_ := Aside0.mk (hb); have n1_ := Aside0.mk (hi); clear HB; clear HI216; have HB := n0_; have HI216 := n1_; clear n0_ n1_; (try clear hb); (try clear hb2); (try clear hk); (try clear hi); have p221 : 0 ≤ (x10_2 : Int) := of_decide_eq_true (by first | (with_reducible assumption) | assumption); have q221 : x10_2 < (l2.length : Int) := of_decide_eq_true (by first | (with_reducible assumption) | assumption); obtain ⟨ad221, e221, hx221_0⟩ := Kd.at_string HR2.out x10_2 p221 q221; obtain rfl : ad217 = ad221 := (by injection e221); replace hx221_0 := (HB.out.cell (World.block_lt_of_cell? w _ hx221_0)).trans hx221_0; replace p221 := eq_true p221; replace q221 := eq_true q221) | ((with_reducible refine gate_callee (f := 32) rfl ?_); refine goesL_ (some 45) rfl rfl Try.func32 (by kernel_rfl) rfl #[.pointer (some ⟨g216, 0, none⟩), .string (rdOf ByteArray.empty l2 x10_2)] rfl (by (try simp only [List.map_toArray, List.map_cons, List.map_nil]); first | done | rfl | (simp only [List.length_drop, List.length_take]; rfl) | (go_simp; done) | (go_simp; rfl)) ?_; (with_reducible refine (bloom_Filter_Add.calls g216 t219 t220 (rdOf ByteArray.empty l2 x10_2) t222 t223 w _ ?side1 ?side2 A15.out).mono ?_); (case side1 => repeat (first | (with_reducible first | exact HI216.out | apply IsS76.alloc | apply IsS76.drewN | apply IsS76.drew) | exact HI216.out)); (case side2 => repeat (first | (with_reducible first | exact HB.out | apply below_alloc | apply pw_below_drewN | apply below_drew1 | refine below_set ?_ (IsS76.ge HI216.out)) | exact HB.out)); rintro e w38 ⟨rfl, hi, hb, hk⟩; refine ⟨_, rfl, ?_⟩; have n0_ := Aside0.mk (hb); have n1_ := Aside0.mk (hi); clear HB; clear HI216; have HB := n0_; have HI216 := n1_; clear n0_ n1_; (try clear hb); (try clear hb2); (try clear hk); (try clear hi)) | ((with_reducible refine gate_callee (f := 35) rfl ?_); refine goesL_ (some 47) rfl rfl Try.func35 (by kernel_rfl) rfl #[.pointer (some ⟨g216, 0, none⟩)] rfl (by (try simp only [List.map_toArray, List.map_cons, List.map_nil]); first | done | rfl | (simp only [List.length_drop, List.length_take]; rfl) | (go_simp; done) | (go_simp; rfl)) ?_; (with_reducible refine (bloom_Filter_Count.calls g216 t222 t223 t224 t225 t226 w _ ?side1 ?side2 A16.out).mono ?_); (case side1 => repeat (first | (with_reducible first | exact HI216.out | apply IsS76.alloc | apply IsS76.drewN | apply IsS76.drew) | exact HI216.out)); (case side2 => repeat (first | (with_reducible first | exact HB.out | apply below_alloc | apply pw_below_drewN | apply below_drew1 | refine below_set ?_ (IsS76.ge HI216.out)) | exact HB.out)); rintro e w39 ⟨rfl, hi, hb, hk⟩; refine ⟨_, rfl, ?_⟩; have n0_ := Aside0.mk (hb); have n1_ := Aside0.mk (hi); clear HB; clear HI216; have HB := n0_; have HI216 := n1_; clear n0_ n1_; (try clear hb); (try clear hb2); (try clear hk); (try clear hi)))
             go_roundg k2
             case measure => have := HJ6.out; have := HK2.out; omega
             case rel => exact ⟨(t224), (wrap64 (x10_2 + 1)), (t225), (t226), (by first | rfl | (simp; done) | (simp [*]; done)), (by first | rfl | (simp; done) | (simp [*]; done)), H', ⟨by have := HJ6.out; have := HK2.out; omega⟩, ⟨by repeat (first | (with_reducible first | exact HI216.out | apply IsS76.alloc | apply IsS76.drewN | apply IsS76.drew) | exact HI216.out)⟩, ⟨by repeat (first | (with_reducible first | exact HB.out | apply below_alloc | apply pw_below_drewN | apply below_drew1 | refine below_set ?_ (IsS76.ge HI216.out)) | exact HB.out)⟩⟩
        ·rw [if_neg c13] at H
         exact absurd H (by simp)
       ·rw [if_neg c12] at H
        have c12b0 : decide (x10_2 < (l2.length : Int)) = false := decide_eq_false c12
        clear c12
        obtain rfl := Option.some.inj H
        go_wp2
        go_ret
        exact ⟨by first | rfl | (simp [errW_none, errW_some] <;> rfl) | (simp [*, errW_none, errW_some] <;> rfl), by repeat (first | (with_reducible first | exact HB.out | apply below_alloc | apply pw_below_drewN | apply below_drew1 | refine below_set ?_ (IsS76.ge HI216.out)) | exact HB.out)⟩
 ·replace c5 := Bool.eq_false_iff.mpr c5
  subst c5
  have H1 : (some false) = some r := by rw [if_neg (show ¬ (false = true) by decide)] at H; exact H
  clear H
  have H := H1
  clear H1
  obtain rfl := Option.some.inj H
  go_enter Try.func14, Try.ntmps14
  go_wp2_with (first | ((with_reducible refine gate_callee (f := 30) rfl ?_); refine goesL_ (some 13) rfl rfl Try.func30 (by kernel_rfl) rfl #[] rfl (by (try simp only [List.map_toArray, List.map_cons, List.map_nil]); first | done | rfl | (simp only [List.length_drop, List.length_take]; rfl) | (go_simp; done) | (go_simp; rfl)) ?_; (with_reducible refine (cellaretlaw7_awake.calls k  false _ A4.out).mono ?_); rintro e w40 ⟨rfl, hb⟩; refine ⟨_, rfl, ?_⟩; have n0_ := Aside0.mk (below_step (by repeat (first | (with_reducible first | exact HB.out | apply below_alloc | apply pw_below_drewN | apply below_drew1) | exact HB.out)) hb); clear HB; have HB := n0_; clear n0_; (try clear hb); (try clear hb2); (try clear hk); (try clear hi)))
  go_ret
  exact ⟨by first | rfl | (simp [errW_none, errW_some] <;> rfl) | (simp [*, errW_none, errW_some] <;> rfl), by repeat (first | (with_reducible first | exact HB.out | apply below_alloc | apply pw_below_drewN | apply below_drew1) | exact HB.out)⟩


end Go.Proofs.Ytefalfheeofhhaa.QW
