/- Laid by a program of this session: what the Go functions answer, as Lean functions, and the walks that prove it; no condition beyond what each statement names. -/
import Derived.Test.YtefalfheeofhhaaQWA
namespace Go.Proofs.Ytefalfheeofhhaa.QW
open Go.RowKit Go.Proofs.YtefalfheeofhhaaW.PrintWords Go.Proofs.YtefalfheeofhhaaW.PrintLast Go.Proofs.YtefalfheeofhhaaW.PrintMore
open Go.Proofs.Ytefalfheeofhhaa.QV (errW errW_none errW_some info3)
attribute [local go_sem] max2_int min2_int max_two min_two max_three min_three max_four min_four
set_option linter.unusedVariables false
set_option linter.unusedSimpArgs false

/-! ### cellaretlaw7_BloomNever: function 12 -/
mutual
def cellaretlaw7_BloomNever.j0 : Nat → List ByteArray → Bool → List Bool → Int → Option (Bool)
 | 0, _, _, _, _ => none
 | k + 1, x2, x26, x169000, x169001 => if x26 = true then (some true) else (cellaretlaw7_BloomNever.l0 k x2 0 x169000 x169001)
def cellaretlaw7_BloomNever.l0 : Nat → List ByteArray → Int → List Bool → Int → Option (Bool)
 | 0, _, _, _, _ => none
 | k + 1, x2, x9, x169000, x169001 => if x9 < (x2.length : Int) then (if 0 ≤ x9 then ((bloom_Filter_Add.f x169000 x169001 (rdOf ByteArray.empty x2 x9)).bind fun bt170 => (cellaretlaw7_BloomNever.l0 k x2 (wrap64 (x9 + 1)) bt170.1 bt170.2)) else (none)) else (cellaretlaw7_BloomNever.l1 k x2 0 x169000 x169001)
def cellaretlaw7_BloomNever.l1 : Nat → List ByteArray → Int → List Bool → Int → Option (Bool)
 | 0, _, _, _, _ => none
 | k + 1, x2, x10, x169000, x169001 => if x10 < (x2.length : Int) then (if 0 ≤ x10 then ((bloom_Filter_May.f x169000 x169001 (rdOf ByteArray.empty x2 x10)).bind fun bt173 => (if bt173.1 = true then (cellaretlaw7_BloomNever.l1 k x2 (wrap64 (x10 + 1)) bt173.2.1 bt173.2.2) else (some false))) else (none)) else ((bloom_Filter_Clear.f x169000 x169001).bind fun bt176 => (cellaretlaw7_BloomNever.l2 k x2 0 bt176.1 bt176.2))
def cellaretlaw7_BloomNever.l2 : Nat → List ByteArray → Int → List Bool → Int → Option (Bool)
 | 0, _, _, _, _ => none
 | k + 1, x2, x11, x169000, x169001 => if x11 < (x2.length : Int) then (if 0 ≤ x11 then ((bloom_Filter_May.f x169000 x169001 (rdOf ByteArray.empty x2 x11)).bind fun bt179 => (if bt179.1 = true then (some false) else (cellaretlaw7_BloomNever.l2 k x2 (wrap64 (x11 + 1)) bt179.2.1 bt179.2.2))) else (none)) else ((bloom_Filter_Count.f x169000 x169001).bind fun bt182 => (some (bt182.1 == 0)))
end
def cellaretlaw7_BloomNever.f (k : Nat) (a0 : Int) (a1 : Int) (l2 : List ByteArray) : Option (Bool) := (cellaretlaw7_awake.f k).bind fun t165 => (if t165 = true then ((bloom_New.f a0 a1).bind fun bt166 => (if 0 = 0 then (cellaretlaw7_BloomNever.j0 k l2 (decide ((l2.length : Int) > 60)) bt166.1 bt166.2) else (cellaretlaw7_BloomNever.j0 k l2 true bt166.1 bt166.2))) else (some false))
theorem cellaretlaw7_BloomNever.mono_l : ∀ k, (∀ y0 y1 y2 y3, LeO (cellaretlaw7_BloomNever.j0 k y0 y1 y2 y3) (cellaretlaw7_BloomNever.j0 (k + 1) y0 y1 y2 y3)) ∧ (∀ y0 y1 y2 y3, LeO (cellaretlaw7_BloomNever.l0 k y0 y1 y2 y3) (cellaretlaw7_BloomNever.l0 (k + 1) y0 y1 y2 y3)) ∧ (∀ y0 y1 y2 y3, LeO (cellaretlaw7_BloomNever.l1 k y0 y1 y2 y3) (cellaretlaw7_BloomNever.l1 (k + 1) y0 y1 y2 y3)) ∧ (∀ y0 y1 y2 y3, LeO (cellaretlaw7_BloomNever.l2 k y0 y1 y2 y3) (cellaretlaw7_BloomNever.l2 (k + 1) y0 y1 y2 y3))
 | 0 => ⟨fun _ _ _ _ r h => by simp [cellaretlaw7_BloomNever.j0] at h, fun _ _ _ _ r h => by simp [cellaretlaw7_BloomNever.l0] at h, fun _ _ _ _ r h => by simp [cellaretlaw7_BloomNever.l1] at h, fun _ _ _ _ r h => by simp [cellaretlaw7_BloomNever.l2] at h⟩
 | k + 1 => by
  obtain ⟨ih0, ih1, ih2, ih3⟩ := cellaretlaw7_BloomNever.mono_l k
  refine ⟨?_, ?_, ?_, ?_⟩
  ·intro y0 y1 y2 y3
   unfold cellaretlaw7_BloomNever.j0
   repeat' first
   | (with_reducible exact ih0 _ _ _ _)
   | (with_reducible exact ih1 _ _ _ _)
   | (with_reducible exact ih2 _ _ _ _)
   | (with_reducible exact ih3 _ _ _ _)
   | (with_reducible exact cellaretlaw7_awake.mono _)
   | (with_reducible exact LeO.refl _)
   | (with_reducible exact LeO.none _)
   | (with_reducible refine LeO.ite ?_ ?_)
   | (with_reducible refine LeO.bind ?_ (fun _ => ?_))
   | exact ih0 _ _ _ _
   | exact ih1 _ _ _ _
   | exact ih2 _ _ _ _
   | exact ih3 _ _ _ _
   | exact cellaretlaw7_awake.mono _
   | exact LeO.none _
   | refine LeO.ite ?_ ?_
   | refine LeO.bind ?_ (fun _ => ?_)
  ·intro y0 y1 y2 y3
   unfold cellaretlaw7_BloomNever.l0
   repeat' first
   | (with_reducible exact ih0 _ _ _ _)
   | (with_reducible exact ih1 _ _ _ _)
   | (with_reducible exact ih2 _ _ _ _)
   | (with_reducible exact ih3 _ _ _ _)
   | (with_reducible exact cellaretlaw7_awake.mono _)
   | (with_reducible exact LeO.refl _)
   | (with_reducible exact LeO.none _)
   | (with_reducible refine LeO.ite ?_ ?_)
   | (with_reducible refine LeO.bind ?_ (fun _ => ?_))
   | exact ih0 _ _ _ _
   | exact ih1 _ _ _ _
   | exact ih2 _ _ _ _
   | exact ih3 _ _ _ _
   | exact cellaretlaw7_awake.mono _
   | exact LeO.none _
   | refine LeO.ite ?_ ?_
   | refine LeO.bind ?_ (fun _ => ?_)
  ·intro y0 y1 y2 y3
   unfold cellaretlaw7_BloomNever.l1
   repeat' first
   | (with_reducible exact ih0 _ _ _ _)
   | (with_reducible exact ih1 _ _ _ _)
   | (with_reducible exact ih2 _ _ _ _)
   | (with_reducible exact ih3 _ _ _ _)
   | (with_reducible exact cellaretlaw7_awake.mono _)
   | (with_reducible exact LeO.refl _)
   | (with_reducible exact LeO.none _)
   | (with_reducible refine LeO.ite ?_ ?_)
   | (with_reducible refine LeO.bind ?_ (fun _ => ?_))
   | exact ih0 _ _ _ _
   | exact ih1 _ _ _ _
   | exact ih2 _ _ _ _
   | exact ih3 _ _ _ _
   | exact cellaretlaw7_awake.mono _
   | exact LeO.none _
   | refine LeO.ite ?_ ?_
   | refine LeO.bind ?_ (fun _ => ?_)
  ·intro y0 y1 y2 y3
   unfold cellaretlaw7_BloomNever.l2
   repeat' first
   | (with_reducible exact ih0 _ _ _ _)
   | (with_reducible exact ih1 _ _ _ _)
   | (with_reducible exact ih2 _ _ _ _)
   | (with_reducible exact ih3 _ _ _ _)
   | (with_reducible exact cellaretlaw7_awake.mono _)
   | (with_reducible exact LeO.refl _)
   | (with_reducible exact LeO.none _)
   | (with_reducible refine LeO.ite ?_ ?_)
   | (with_reducible refine LeO.bind ?_ (fun _ => ?_))
   | exact ih0 _ _ _ _
   | exact ih1 _ _ _ _
   | exact ih2 _ _ _ _
   | exact ih3 _ _ _ _
   | exact cellaretlaw7_awake.mono _
   | exact LeO.none _
   | refine LeO.ite ?_ ?_
   | refine LeO.bind ?_ (fun _ => ?_)
theorem cellaretlaw7_BloomNever.mono : ∀ a0 a1 a2 k, LeO (cellaretlaw7_BloomNever.f k a0 a1 a2) (cellaretlaw7_BloomNever.f (k + 1) a0 a1 a2) := by
 intro a0 a1 a2 k
 obtain ⟨ih0, ih1, ih2, ih3⟩ := cellaretlaw7_BloomNever.mono_l k
 unfold cellaretlaw7_BloomNever.f
 repeat' first
   | (with_reducible exact ih0 _ _ _ _)
   | (with_reducible exact ih1 _ _ _ _)
   | (with_reducible exact ih2 _ _ _ _)
   | (with_reducible exact ih3 _ _ _ _)
   | (with_reducible exact cellaretlaw7_awake.mono _)
   | (with_reducible exact LeO.refl _)
   | (with_reducible exact LeO.none _)
   | (with_reducible refine LeO.ite ?_ ?_)
   | (with_reducible refine LeO.bind ?_ (fun _ => ?_))
   | exact ih0 _ _ _ _
   | exact ih1 _ _ _ _
   | exact ih2 _ _ _ _
   | exact ih3 _ _ _ _
   | exact cellaretlaw7_awake.mono _
   | exact LeO.none _
   | refine LeO.ite ?_ ?_
   | refine LeO.bind ?_ (fun _ => ?_)
set_option maxHeartbeats 8000000 in
set_option maxRecDepth 100000 in
theorem cellaretlaw7_BloomNever.calls (k : Nat) (a0 : Int) (a1 : Int) (A2 : Option Addr) (c2 : Nat) (l2 : List ByteArray) (r : Bool) (w : World) (hr2 : Kd.C Kd.string w A2 l2.length l2) (hc2 : l2.length ≤ c2) (h : cellaretlaw7_BloomNever.f k a0 a1 l2 = some r) :
  Calls Try.prog 12 #[.int .i64 a0, .int .i64 a1, .slice A2 l2.length c2] w fun e w' => e = .returned (.bool r) ∧ Below w.heap.size w w' := by
 have HR2 := Aside0.mk hr2
 have HC2 := Aside0.mk hc2
 clear hr2 hc2
 have HB := Aside0.mk (Below.refl w.heap.size w)
 have H : ((cellaretlaw7_awake.f k).bind fun t165 => (if t165 = true then ((bloom_New.f a0 a1).bind fun bt166 => (if 0 = 0 then (cellaretlaw7_BloomNever.j0 k l2 (decide ((l2.length : Int) > 60)) bt166.1 bt166.2) else (cellaretlaw7_BloomNever.j0 k l2 true bt166.1 bt166.2))) else (some false))) = some r := h
 clear h
 replace H := Option.bind_eq_some_iff.mp H
 obtain ⟨t165, A40, H⟩ := H
 replace H : (if t165 = true then ((bloom_New.f a0 a1).bind fun bt166 => (if 0 = 0 then (cellaretlaw7_BloomNever.j0 k l2 (decide ((l2.length : Int) > 60)) bt166.1 bt166.2) else (cellaretlaw7_BloomNever.j0 k l2 true bt166.1 bt166.2))) else (some false)) = some r := H
 have A4 := Aside0.mk A40
 clear A40
 by_cases c5 : t165 = true
 ·subst c5
  have H1 : ((bloom_New.f a0 a1).bind fun bt166 => (if 0 = 0 then (cellaretlaw7_BloomNever.j0 k l2 (decide ((l2.length : Int) > 60)) bt166.1 bt166.2) else (cellaretlaw7_BloomNever.j0 k l2 true bt166.1 bt166.2))) = some r := by rw [if_pos rfl] at H; exact H
  clear H
  have H := H1
  clear H1
  replace H := Option.bind_eq_some_iff.mp H
  obtain ⟨⟨t166, t167⟩, A60, H⟩ := H
  replace H : (if 0 = 0 then (cellaretlaw7_BloomNever.j0 k l2 (decide ((l2.length : Int) > 60)) t166 t167) else (cellaretlaw7_BloomNever.j0 k l2 true t166 t167)) = some r := H
  have A6 := Aside0.mk A60
  clear A60
  have HC7 := Aside0.mk H
  clear H
  go_enter Try.func12, Try.ntmps12
  go_upto_region 4 with (first | ((with_reducible refine gate_callee (f := 30) rfl ?_); refine goesL_ (some 12) rfl rfl Try.func30 (by kernel_rfl) rfl #[] rfl (by (try simp only [List.map_toArray, List.map_cons, List.map_nil]); first | done | rfl | (simp only [List.length_drop, List.length_take]; rfl) | (go_simp; done) | (go_simp; rfl)) ?_; (with_reducible refine (cellaretlaw7_awake.calls k  true _ A4.out).mono ?_); rintro e w8 ⟨rfl, hb⟩; refine ⟨_, rfl, ?_⟩; have n0_ := Aside0.mk (below_step (by repeat (first | (with_reducible first | exact HB.out | apply below_alloc | apply pw_below_drewN | apply below_drew1) | exact HB.out)) hb); clear HB; have HB := n0_; clear n0_; (try clear hb); (try clear hb2); (try clear hk); (try clear hi)) | ((with_reducible refine gate_callee (f := 31) rfl ?_); refine goesL_ (some 17) rfl rfl Try.func31 (by kernel_rfl) rfl #[.int .i64 a0, .int .i64 a1] rfl (by (try simp only [List.map_toArray, List.map_cons, List.map_nil]); first | done | rfl | (simp only [List.length_drop, List.length_take]; rfl) | (go_simp; done) | (go_simp; rfl)) ?_; (with_reducible refine (bloom_New.calls a0 a1 t166 t167 w _ ?side1 A6.out).mono ?_); (case side1 => repeat (first | (with_reducible first | exact HB.out | apply below_alloc | apply pw_below_drewN | apply below_drew1) | exact HB.out)); rintro e w9 ⟨g168, rfl, hi, hb, hb2⟩; refine ⟨_, rfl, ?_⟩; have n0_ := Aside0.mk (hb); have n1_ := Aside0.mk (hi); clear HB; have HB := n0_; have HI168 := n1_; clear n0_ n1_; (try clear hb); (try clear hb2); (try clear hk); (try clear hi)))
  (try simp only [Act.put, List.setIfInBounds_toArray, List.set_cons_zero, List.set_cons_succ])
  go_cut [26] (fun v26 wc => ∃ (kq : Nat) (x26_6 : Bool), v26 = .bool x26_6 ∧ Aside0 (cellaretlaw7_BloomNever.j0 kq l2 x26_6 t166 t167 = some r) ∧ Aside0 (kq ≤ k) ∧ Aside0 (IsS76 w wc g168 t166 t167) ∧ Aside0 (Below w.heap.size w wc))
  case first =>
   have H := HC7.out
   clear HC7
   by_cases c10 : 0 = 0
   ·rw [if_pos c10] at H
    have c10b0 : (0 == 0) = true := beq_iff_eq.mpr c10
    have c10b1 : (0 != 0) = false := bne_eq_false_iff_eq.mpr c10
    clear c10
    (first | rw [c10b0] | (simp only [i64_w, i32_w]; rw [c10b0]) | skip)
    have H' := Aside0.mk H
    clear H
    go_wp2
    go_meet
    case rel => exact ⟨_, (decide ((l2.length : Int) > 60)), (by first | rfl | (simp; done) | (simp [*]; done)), H', ⟨by first | omega | exact Nat.le_refl _⟩, ⟨by repeat (first | (with_reducible first | exact HI168.out | apply IsS76.alloc | apply IsS76.drewN | apply IsS76.drew) | exact HI168.out)⟩, ⟨by repeat (first | (with_reducible first | exact HB.out | apply below_alloc | apply pw_below_drewN | apply below_drew1 | refine below_set ?_ (IsS76.ge HI168.out)) | exact HB.out)⟩⟩
   ·exact absurd rfl c10
  case rest =>
   clear HC7
   try clear c1
   try clear c2
   try clear p2
   try clear c3
   try clear c5
   try clear c10
   try clear c10b0
   try clear c10b1
   obtain ⟨kq, x26_6, rfl, HA, HJ6, HI168, HB⟩ := hcut
   cases kq with
   | zero => exact absurd HA.out (by simp [cellaretlaw7_BloomNever.j0])
   | succ kj6 =>
    have H := HA.out
    clear HA
    simp only [cellaretlaw7_BloomNever.j0] at H
    by_cases c11 : x26_6 = true
    ·subst c11
     have H1 : (some true) = some r := by rw [if_pos rfl] at H; exact H
     clear H
     have H := H1
     clear H1
     obtain rfl := Option.some.inj H
     go_wp2
     go_ret
     exact ⟨by first | rfl | (simp [errW_none, errW_some] <;> rfl) | (simp [*, errW_none, errW_some] <;> rfl), by repeat (first | (with_reducible first | exact HB.out | apply below_alloc | apply pw_below_drewN | apply below_drew1 | refine below_set ?_ (IsS76.ge HI168.out)) | exact HB.out)⟩
    ·replace c11 := Bool.eq_false_iff.mpr c11
     subst c11
     have H1 : (cellaretlaw7_BloomNever.l0 kj6 l2 0 t166 t167) = some r := by rw [if_neg (show ¬ (false = true) by decide)] at H; exact H
     clear H
     have H := H1
     clear H1
     have H' := Aside0.mk H
     clear H
     go_wp2
     go_loopg [9] kj6 (fun kq v9 w' => ∃ (x9_2 : Int) (x169000_2 : List Bool) (x169001_2 : Int), v9 = .int .i64 x9_2 ∧ Aside0 (cellaretlaw7_BloomNever.l0 kq l2 x9_2 x169000_2 x169001_2 = some r) ∧ Aside0 (kq ≤ kj6) ∧ Aside0 (IsS76 w w' g168 x169000_2 x169001_2) ∧ Aside0 (Below w.heap.size w w'))
     case atStart => exact ⟨(0), (t166), (t167), (by first | rfl | (simp; done) | (simp [*]; done)), H', ⟨Nat.le_refl _⟩, ⟨by repeat (first | (with_reducible first | exact HI168.out | apply IsS76.alloc | apply IsS76.drewN | apply IsS76.drew) | exact HI168.out)⟩, ⟨by repeat (first | (with_reducible first | exact HB.out | apply below_alloc | apply pw_below_drewN | apply below_drew1 | refine below_set ?_ (IsS76.ge HI168.out)) | exact HB.out)⟩⟩
     case round =>
      clear H'
      try clear c1
      try clear c2
      try clear p2
      try clear c3
      try clear c5
      try clear c10
      try clear c10b0
      try clear c10b1
      try clear c11
      try clear p2
      obtain ⟨x9_2, x169000_2, x169001_2, rfl, HA, HK2, HI168, HB⟩ := hrel
      cases gk with
      | zero => exact absurd HA.out (by simp [cellaretlaw7_BloomNever.l0])
      | succ k2 =>
       have H := HA.out
       clear HA
       simp only [cellaretlaw7_BloomNever.l0] at H
       by_cases c12 : x9_2 < (l2.length : Int)
       ·rw [if_pos c12] at H
        have c12b0 : decide (x9_2 < (l2.length : Int)) = true := decide_eq_true c12
        clear c12
        by_cases c13 : 0 ≤ x9_2
        ·rw [if_pos c13] at H
         have c13b0 : decide (0 ≤ x9_2) = true := decide_eq_true c13
         clear c13
         replace H := Option.bind_eq_some_iff.mp H
         obtain ⟨⟨t170, t171⟩, A140, H⟩ := H
         replace H : (cellaretlaw7_BloomNever.l0 k2 l2 (wrap64 (x9_2 + 1)) t170 t171) = some r := H
         have A14 := Aside0.mk A140
         clear A140
         have H' := Aside0.mk H
         clear H
         have p169 : 0 ≤ (x9_2 : Int) := of_decide_eq_true (by first | (with_reducible assumption) | assumption)
         have q169 : x9_2 < (l2.length : Int) := of_decide_eq_true (by first | (with_reducible assumption) | assumption)
         obtain ⟨ad169, e169, hx169_0⟩ := Kd.at_string HR2.out x9_2 p169 q169
         cases e169
         replace hx169_0 := (HB.out.cell (World.block_lt_of_cell? w _ hx169_0)).trans hx169_0
         replace p169 := eq_true p169
         replace q169 := eq_true q169
         go_wp2_with (first | ((with_reducible refine gate_callee (f := 32) rfl ?_); refine goesL_ (some 38) rfl rfl Try.func32 (by kernel_rfl) rfl #[.pointer (some ⟨g168, 0, none⟩), .string (rdOf ByteArray.empty l2 x9_2)] rfl (by (try simp only [List.map_toArray, List.map_cons, List.map_nil]); first | done | rfl | (simp only [List.length_drop, List.length_take]; rfl) | (go_simp; done) | (go_simp; rfl)) ?_; (with_reducible refine (bloom_Filter_Add.calls g168 x169000_2 x169001_2 (rdOf ByteArray.empty l2 x9_2) t170 t171 w _ ?side1 ?side2 A14.out).mono ?_); (case side1 => repeat (first | (with_reducible first | exact HI168.out | apply IsS76.alloc | apply IsS76.drewN | apply IsS76.drew) | exact HI168.out)); (case side2 => repeat (first | (with_reducible first | exact HB.out | apply below_alloc | apply pw_below_drewN | apply below_drew1 | refine below_set ?_ (IsS76.ge HI168.out)) | exact HB.out)); rintro e w15 ⟨rfl, hi, hb, hk⟩; refine ⟨_, rfl, ?_⟩; have n0_ := Aside0.mk (hb); have n1_ := Aside0.mk (hi); clear HB; clear HI168; have HB := n0_; have HI168 := n1_; clear n0_ n1_; (try clear hb); (try clear hb2); (try clear hk); (try clear hi)))
         go_roundg k2
         case measure => have := HJ6.out; have := HK2.out; omega
         case rel => exact ⟨(wrap64 (x9_2 + 1)), (t170), (t171), (by first | rfl | (simp; done) | (simp [*]; done)), H', ⟨by have := HJ6.out; have := HK2.out; omega⟩, ⟨by repeat (first | (with_reducible first | exact HI168.out | apply IsS76.alloc | apply IsS76.drewN | apply IsS76.drew) | exact HI168.out)⟩, ⟨by repeat (first | (with_reducible first | exact HB.out | apply below_alloc | apply pw_below_drewN | apply below_drew1 | refine below_set ?_ (IsS76.ge HI168.out)) | exact HB.out)⟩⟩
        ·rw [if_neg c13] at H
         exact absurd H (by simp)
       ·rw [if_neg c12] at H
        have c12b0 : decide (x9_2 < (l2.length : Int)) = false := decide_eq_false c12
        clear c12
        have H' := Aside0.mk H
        clear H
        go_wp2
        go_loopg [10] k2 (fun kq v10 w' => ∃ (x10_3 : Int) (x169000_3 : List Bool) (x169001_3 : Int), v10 = .int .i64 x10_3 ∧ Aside0 (cellaretlaw7_BloomNever.l1 kq l2 x10_3 x169000_3 x169001_3 = some r) ∧ Aside0 (kq ≤ k2) ∧ Aside0 (IsS76 w w' g168 x169000_3 x169001_3) ∧ Aside0 (Below w.heap.size w w'))
        case atStart => exact ⟨(0), (x169000_2), (x169001_2), (by first | rfl | (simp; done) | (simp [*]; done)), H', ⟨Nat.le_refl _⟩, ⟨by repeat (first | (with_reducible first | exact HI168.out | apply IsS76.alloc | apply IsS76.drewN | apply IsS76.drew) | exact HI168.out)⟩, ⟨by repeat (first | (with_reducible first | exact HB.out | apply below_alloc | apply pw_below_drewN | apply below_drew1 | refine below_set ?_ (IsS76.ge HI168.out)) | exact HB.out)⟩⟩
        case round =>
         clear H'
         try clear c1
         try clear p1
         try clear q1
         try clear hx1
         try clear c2
         try clear p2
         try clear c3
         try clear c5
         try clear p6
         try clear c10
         try clear c10b0
         try clear c10b1
         try clear c11
         try clear c12
         try clear c12b0
         try clear c13
         try clear c13b0
         try clear hx169_0
         try clear p169
         try clear p2
         try clear q169
         obtain ⟨x10_3, x169000_3, x169001_3, rfl, HA, HK3, HI168, HB⟩ := hrel
         cases gk with
         | zero => exact absurd HA.out (by simp [cellaretlaw7_BloomNever.l1])
         | succ k3 =>
          have H := HA.out
          clear HA
          simp only [cellaretlaw7_BloomNever.l1] at H
          by_cases c16 : x10_3 < (l2.length : Int)
          ·rw [if_pos c16] at H
           have c16b0 : decide (x10_3 < (l2.length : Int)) = true := decide_eq_true c16
           clear c16
           by_cases c17 : 0 ≤ x10_3
           ·rw [if_pos c17] at H
            have c17b0 : decide (0 ≤ x10_3) = true := decide_eq_true c17
            clear c17
            replace H := Option.bind_eq_some_iff.mp H
            obtain ⟨⟨t173, t174, t175⟩, A180, H⟩ := H
            replace H : (if t173 = true then (cellaretlaw7_BloomNever.l1 k3 l2 (wrap64 (x10_3 + 1)) t174 t175) else (some false)) = some r := H
            have A18 := Aside0.mk A180
            clear A180
            by_cases c19 : t173 = true
            ·subst c19
             have H1 : (cellaretlaw7_BloomNever.l1 k3 l2 (wrap64 (x10_3 + 1)) t174 t175) = some r := by rw [if_pos rfl] at H; exact H
             clear H
             have H := H1
             clear H1
             have H' := Aside0.mk H
             clear H
             have p172 : 0 ≤ (x10_3 : Int) := of_decide_eq_true (by first | (with_reducible assumption) | assumption)
             have q172 : x10_3 < (l2.length : Int) := of_decide_eq_true (by first | (with_reducible assumption) | assumption)
             obtain ⟨ad172, e172, hx172_0⟩ := Kd.at_string HR2.out x10_3 p172 q172
             cases e172
             replace hx172_0 := (HB.out.cell (World.block_lt_of_cell? w _ hx172_0)).trans hx172_0
             replace p172 := eq_true p172
             replace q172 := eq_true q172
             go_wp2_with (first | ((with_reducible refine gate_callee (f := 36) rfl ?_); refine goesL_ (some 50) rfl rfl Try.func36 (by kernel_rfl) rfl #[.pointer (some ⟨g168, 0, none⟩), .string (rdOf ByteArray.empty l2 x10_3)] rfl (by (try simp only [List.map_toArray, List.map_cons, List.map_nil]); first | done | rfl | (simp only [List.length_drop, List.length_take]; rfl) | (go_simp; done) | (go_simp; rfl)) ?_; (with_reducible refine (bloom_Filter_May.calls g168 x169000_3 x169001_3 (rdOf ByteArray.empty l2 x10_3) true t174 t175 w _ ?side1 ?side2 A18.out).mono ?_); (case side1 => repeat (first | (with_reducible first | exact HI168.out | apply IsS76.alloc | apply IsS76.drewN | apply IsS76.drew) | exact HI168.out)); (case side2 => repeat (first | (with_reducible first | exact HB.out | apply below_alloc | apply pw_below_drewN | apply below_drew1 | refine below_set ?_ (IsS76.ge HI168.out)) | exact HB.out)); rintro e w20 ⟨rfl, hi, hb, hk⟩; refine ⟨_, rfl, ?_⟩; have n0_ := Aside0.mk (hb); have n1_ := Aside0.mk (hi); clear HB; clear HI168; have HB := n0_; have HI168 := n1_; clear n0_ n1_; (try clear hb); (try clear hb2); (try clear hk); (try clear hi)))
             go_roundg k3
             case measure => have := HJ6.out; have := HK2.out; have := HK3.out; omega
             case rel => exact ⟨(wrap64 (x10_3 + 1)), (t174), (t175), (by first | rfl | (simp; done) | (simp [*]; done)), H', ⟨by have := HJ6.out; have := HK2.out; have := HK3.out; omega⟩, ⟨by repeat (first | (with_reducible first | exact HI168.out | apply IsS76.alloc | apply IsS76.drewN | apply IsS76.drew) | exact HI168.out)⟩, ⟨by repeat (first | (with_reducible first | exact HB.out | apply below_alloc | apply pw_below_drewN | apply below_drew1 | refine below_set ?_ (IsS76.ge HI168.out)) | exact HB.out)⟩⟩
            ·replace c19 := Bool.eq_false_iff.mpr c19
             subst c19
             have H1 : (some false) = some r := by rw [if_neg (show ¬ (false = true) by decide)] at H; exact H
             clear H
             have H := H1
             clear H1
             obtain rfl := Option.some.inj H
             have p172 : 0 ≤ (x10_3 : Int) := of_decide_eq_true (by first | (with_reducible assumption) | assumption)
             have q172 : x10_3 < (l2.length : Int) := of_decide_eq_true (by first | (with_reducible assumption) | assumption)
             obtain ⟨ad172, e172, hx172_0⟩ := Kd.at_string HR2.out x10_3 p172 q172
             cases e172
             replace hx172_0 := (HB.out.cell (World.block_lt_of_cell? w _ hx172_0)).trans hx172_0
             replace p172 := eq_true p172
             replace q172 := eq_true q172
             go_wp2_with (first | ((with_reducible refine gate_callee (f := 36) rfl ?_); refine goesL_ (some 50) rfl rfl Try.func36 (by kernel_rfl) rfl #[.pointer (some ⟨g168, 0, none⟩), .string (rdOf ByteArray.empty l2 x10_3)] rfl (by (try simp only [List.map_toArray, List.map_cons, List.map_nil]); first | done | rfl | (simp only [List.length_drop, List.length_take]; rfl) | (go_simp; done) | (go_simp; rfl)) ?_; (with_reducible refine (bloom_Filter_May.calls g168 x169000_3 x169001_3 (rdOf ByteArray.empty l2 x10_3) false t174 t175 w _ ?side1 ?side2 A18.out).mono ?_); (case side1 => repeat (first | (with_reducible first | exact HI168.out | apply IsS76.alloc | apply IsS76.drewN | apply IsS76.drew) | exact HI168.out)); (case side2 => repeat (first | (with_reducible first | exact HB.out | apply below_alloc | apply pw_below_drewN | apply below_drew1 | refine below_set ?_ (IsS76.ge HI168.out)) | exact HB.out)); rintro e w21 ⟨rfl, hi, hb, hk⟩; refine ⟨_, rfl, ?_⟩; have n0_ := Aside0.mk (hb); have n1_ := Aside0.mk (hi); clear HB; clear HI168; have HB := n0_; have HI168 := n1_; clear n0_ n1_; (try clear hb); (try clear hb2); (try clear hk); (try clear hi)))
             go_ret
             exact ⟨by first | rfl | (simp [errW_none, errW_some] <;> rfl) | (simp [*, errW_none, errW_some] <;> rfl), by repeat (first | (with_reducible first | exact HB.out | apply below_alloc | apply pw_below_drewN | apply below_drew1 | refine below_set ?_ (IsS76.ge HI168.out)) | exact HB.out)⟩
           ·rw [if_neg c17] at H
            exact absurd H (by simp)
          ·rw [if_neg c16] at H
           have c16b0 : decide (x10_3 < (l2.length : Int)) = false := decide_eq_false c16
           clear c16
           replace H := Option.bind_eq_some_iff.mp H
           obtain ⟨⟨t176, t177⟩, A220, H⟩ := H
           replace H : (cellaretlaw7_BloomNever.l2 k3 l2 0 t176 t177) = some r := H
           have A22 := Aside0.mk A220
           clear A220
           have H' := Aside0.mk H
           clear H
           go_wp2_with (first | ((with_reducible refine gate_callee (f := 37) rfl ?_); refine goesL_ (some 53) rfl rfl Try.func37 (by kernel_rfl) rfl #[.pointer (some ⟨g168, 0, none⟩)] rfl (by (try simp only [List.map_toArray, List.map_cons, List.map_nil]); first | done | rfl | (simp only [List.length_drop, List.length_take]; rfl) | (go_simp; done) | (go_simp; rfl)) ?_; (with_reducible refine (bloom_Filter_Clear.calls g168 x169000_3 x169001_3 t176 t177 w _ ?side1 ?side2 A22.out).mono ?_); (case side1 => repeat (first | (with_reducible first | exact HI168.out | apply IsS76.alloc | apply IsS76.drewN | apply IsS76.drew) | exact HI168.out)); (case side2 => repeat (first | (with_reducible first | exact HB.out | apply below_alloc | apply pw_below_drewN | apply below_drew1 | refine below_set ?_ (IsS76.ge HI168.out)) | exact HB.out)); rintro e w23 ⟨rfl, hi, hb, hk⟩; refine ⟨_, rfl, ?_⟩; have n0_ := Aside0.mk (hb); have n1_ := Aside0.mk (hi); clear HB; clear HI168; have HB := n0_; have HI168 := n1_; clear n0_ n1_; (try clear hb); (try clear hb2); (try clear hk); (try clear hi)))
           go_loopg [11] k3 (fun kq v11 w' => ∃ (x11_4 : Int) (x169000_4 : List Bool) (x169001_4 : Int), v11 = .int .i64 x11_4 ∧ Aside0 (cellaretlaw7_BloomNever.l2 kq l2 x11_4 x169000_4 x169001_4 = some r) ∧ Aside0 (kq ≤ k3) ∧ Aside0 (IsS76 w w' g168 x169000_4 x169001_4) ∧ Aside0 (Below w.heap.size w w'))
           case atStart => exact ⟨(0), (t176), (t177), (by first | rfl | (simp; done) | (simp [*]; done)), H', ⟨Nat.le_refl _⟩, ⟨by repeat (first | (with_reducible first | exact HI168.out | apply IsS76.alloc | apply IsS76.drewN | apply IsS76.drew) | exact HI168.out)⟩, ⟨by repeat (first | (with_reducible first | exact HB.out | apply below_alloc | apply pw_below_drewN | apply below_drew1 | refine below_set ?_ (IsS76.ge HI168.out)) | exact HB.out)⟩⟩
           case round =>
            clear H'
            try clear c1
            try clear p1
            try clear q1
            try clear hx1
            try clear c2
            try clear p2
            try clear c3
            try clear c5
            try clear p6
            try clear c10
            try clear c10b0
            try clear c10b1
            try clear c11
            try clear c12
            try clear c12b0
            try clear c13
            try clear c13b0
            try clear c16
            try clear c16b0
            try clear p16
            try clear q16
            try clear hx16
            try clear c17
            try clear c17b0
            try clear p17
            try clear q17
            try clear hx17
            try clear c19
            try clear hx169_0
            try clear hx172_0
            try clear p1
            try clear p169
            try clear p172
            try clear p2
            try clear p6
            try clear q1
            try clear q169
            try clear q172
            obtain ⟨x11_4, x169000_4, x169001_4, rfl, HA, HK4, HI168, HB⟩ := hrel
            cases gk with
            | zero => exact absurd HA.out (by simp [cellaretlaw7_BloomNever.l2])
            | succ k4 =>
             have H := HA.out
             clear HA
             simp only [cellaretlaw7_BloomNever.l2] at H
             by_cases c24 : x11_4 < (l2.length : Int)
             ·rw [if_pos c24] at H
              have c24b0 : decide (x11_4 < (l2.length : Int)) = true := decide_eq_true c24
              clear c24
              by_cases c25 : 0 ≤ x11_4
              ·rw [if_pos c25] at H
               have c25b0 : decide (0 ≤ x11_4) = true := decide_eq_true c25
               clear c25
               replace H := Option.bind_eq_some_iff.mp H
               obtain ⟨⟨t179, t180, t181⟩, A260, H⟩ := H
               replace H : (if t179 = true then (some false) else (cellaretlaw7_BloomNever.l2 k4 l2 (wrap64 (x11_4 + 1)) t180 t181)) = some r := H
               have A26 := Aside0.mk A260
               clear A260
               by_cases c27 : t179 = true
               ·subst c27
                have H1 : (some false) = some r := by rw [if_pos rfl] at H; exact H
                clear H
                have H := H1
                clear H1
                obtain rfl := Option.some.inj H
                have p178 : 0 ≤ (x11_4 : Int) := of_decide_eq_true (by first | (with_reducible assumption) | assumption)
                have q178 : x11_4 < (l2.length : Int) := of_decide_eq_true (by first | (with_reducible assumption) | assumption)
                obtain ⟨ad178, e178, hx178_0⟩ := Kd.at_string HR2.out x11_4 p178 q178
                cases e178
                replace hx178_0 := (HB.out.cell (World.block_lt_of_cell? w _ hx178_0)).trans hx178_0
                replace p178 := eq_true p178
                replace q178 := eq_true q178
                go_wp2_with (first | ((with_reducible refine gate_callee (f := 36) rfl ?_); refine goesL_ (some 65) rfl rfl Try.func36 (by kernel_rfl) rfl #[.pointer (some ⟨g168, 0, none⟩), .string (rdOf ByteArray.empty l2 x11_4)] rfl (by (try simp only [List.map_toArray, List.map_cons, List.map_nil]); first | done | rfl | (simp only [List.length_drop, List.length_take]; rfl) | (go_simp; done) | (go_simp; rfl)) ?_; (with_reducible refine (bloom_Filter_May.calls g168 x169000_4 x169001_4 (rdOf ByteArray.empty l2 x11_4) true t180 t181 w _ ?side1 ?side2 A26.out).mono ?_); (case side1 => repeat (first | (with_reducible first | exact HI168.out | apply IsS76.alloc | apply IsS76.drewN | apply IsS76.drew) | exact HI168.out)); (case side2 => repeat (first | (with_reducible first | exact HB.out | apply below_alloc | apply pw_below_drewN | apply below_drew1 | refine below_set ?_ (IsS76.ge HI168.out)) | exact HB.out)); rintro e w28 ⟨rfl, hi, hb, hk⟩; refine ⟨_, rfl, ?_⟩; have n0_ := Aside0.mk (hb); have n1_ := Aside0.mk (hi); clear HB; clear HI168; have HB := n0_; have HI168 := n1_; clear n0_ n1_; (try clear hb); (try clear hb2); (try clear hk); (try clear hi)))
                go_ret
                exact ⟨by first | rfl | (simp [errW_none, errW_some] <;> rfl) | (simp [*, errW_none, errW_some] <;> rfl), by repeat (first | (with_reducible first | exact HB.out | apply below_alloc | apply pw_below_drewN | apply below_drew1 | refine below_set ?_ (IsS76.ge HI168.out)) | exact HB.out)⟩
               ·replace c27 := Bool.eq_false_iff.mpr c27
                subst c27
                have H1 : (cellaretlaw7_BloomNever.l2 k4 l2 (wrap64 (x11_4 + 1)) t180 t181) = some r := by rw [if_neg (show ¬ (false = true) by decide)] at H; exact H
                clear H
                have H := H1
                clear H1
                have H' := Aside0.mk H
                clear H
                have p178 : 0 ≤ (x11_4 : Int) := of_decide_eq_true (by first | (with_reducible assumption) | assumption)
                have q178 : x11_4 < (l2.length : Int) := of_decide_eq_true (by first | (with_reducible assumption) | assumption)
                obtain ⟨ad178, e178, hx178_0⟩ := Kd.at_string HR2.out x11_4 p178 q178
                cases e178
                replace hx178_0 := (HB.out.cell (World.block_lt_of_cell? w _ hx178_0)).trans hx178_0
                replace p178 := eq_true p178
                replace q178 := eq_true q178
                go_wp2_with (first | ((with_reducible refine gate_callee (f := 36) rfl ?_); refine goesL_ (some 65) rfl rfl Try.func36 (by kernel_rfl) rfl #[.pointer (some ⟨g168, 0, none⟩), .string (rdOf ByteArray.empty l2 x11_4)] rfl (by (try simp only [List.map_toArray, List.map_cons, List.map_nil]); first | done | rfl | (simp only [List.length_drop, List.length_take]; rfl) | (go_simp; done) | (go_simp; rfl)) ?_; (with_reducible refine (bloom_Filter_May.calls g168 x169000_4 x169001_4 (rdOf ByteArray.empty l2 x11_4) false t180 t181 w _ ?side1 ?side2 A26.out).mono ?_); (case side1 => repeat (first | (with_reducible first | exact HI168.out | apply IsS76.alloc | apply IsS76.drewN | apply IsS76.drew) | exact HI168.out)); (case side2 => repeat (first | (with_reducible first | exact HB.out | apply below_alloc | apply pw_below_drewN | apply below_drew1 | refine below_set ?_ (IsS76.ge HI168.out)) | exact HB.out)); rintro e w29 ⟨rfl, hi, hb, hk⟩; refine ⟨_, rfl, ?_⟩; have n0_ := Aside0.mk (hb); have n1_ := Aside0.mk (hi); clear HB; clear HI168; have HB := n0_; have HI168 := n1_; clear n0_ n1_; (try clear hb); (try clear hb2); (try clear hk); (try clear hi)))
                go_roundg k4
                case measure => have := HJ6.out; have := HK2.out; have := HK3.out; have := HK4.out; omega
                case rel => exact ⟨(wrap64 (x11_4 + 1)), (t180), (t181), (by first | rfl | (simp; done) | (simp [*]; done)), H', ⟨by have := HJ6.out; have := HK2.out; have := HK3.out; have := HK4.out; omega⟩, ⟨by repeat (first | (with_reducible first | exact HI168.out | apply IsS76.alloc | apply IsS76.drewN | apply IsS76.drew) | exact HI168.out)⟩, ⟨by repeat (first | (with_reducible first | exact HB.out | apply below_alloc | apply pw_below_drewN | apply below_drew1 | refine below_set ?_ (IsS76.ge HI168.out)) | exact HB.out)⟩⟩
              ·rw [if_neg c25] at H
               exact absurd H (by simp)
             ·rw [if_neg c24] at H
              have c24b0 : decide (x11_4 < (l2.length : Int)) = false := decide_eq_false c24
              clear c24
              replace H := Option.bind_eq_some_iff.mp H
              obtain ⟨⟨t182, t183, t184⟩, A300, H⟩ := H
              replace H : (some (t182 == 0)) = some r := H
              have A30 := Aside0.mk A300
              clear A300
              obtain rfl := Option.some.inj H
              go_wp2_with (first | ((with_reducible refine gate_callee (f := 35) rfl ?_); refine goesL_ (some 67) rfl rfl Try.func35 (by kernel_rfl) rfl #[.pointer (some ⟨g168, 0, none⟩)] rfl (by (try simp only [List.map_toArray, List.map_cons, List.map_nil]); first | done | rfl | (simp only [List.length_drop, List.length_take]; rfl) | (go_simp; done) | (go_simp; rfl)) ?_; (with_reducible refine (bloom_Filter_Count.calls g168 x169000_4 x169001_4 t182 t183 t184 w _ ?side1 ?side2 A30.out).mono ?_); (case side1 => repeat (first | (with_reducible first | exact HI168.out | apply IsS76.alloc | apply IsS76.drewN | apply IsS76.drew) | exact HI168.out)); (case side2 => repeat (first | (with_reducible first | exact HB.out | apply below_alloc | apply pw_below_drewN | apply below_drew1 | refine below_set ?_ (IsS76.ge HI168.out)) | exact HB.out)); rintro e w31 ⟨rfl, hi, hb, hk⟩; refine ⟨_, rfl, ?_⟩; have n0_ := Aside0.mk (hb); have n1_ := Aside0.mk (hi); clear HB; clear HI168; have HB := n0_; have HI168 := n1_; clear n0_ n1_; (try clear hb); (try clear hb2); (try clear hk); (try clear hi)))
              go_ret
              exact ⟨by first | rfl | (simp [errW_none, errW_some] <;> rfl) | (simp [*, errW_none, errW_some] <;> rfl), by repeat (first | (with_reducible first | exact HB.out | apply below_alloc | apply pw_below_drewN | apply below_drew1 | refine below_set ?_ (IsS76.ge HI168.out)) | exact HB.out)⟩
 ·replace c5 := Bool.eq_false_iff.mpr c5
  subst c5
  have H1 : (some false) = some r := by rw [if_neg (show ¬ (false = true) by decide)] at H; exact H
  clear H
  have H := H1
  clear H1
  obtain rfl := Option.some.inj H
  go_enter Try.func12, Try.ntmps12
  go_wp2_with (first | ((with_reducible refine gate_callee (f := 30) rfl ?_); refine goesL_ (some 12) rfl rfl Try.func30 (by kernel_rfl) rfl #[] rfl (by (try simp only [List.map_toArray, List.map_cons, List.map_nil]); first | done | rfl | (simp only [List.length_drop, List.length_take]; rfl) | (go_simp; done) | (go_simp; rfl)) ?_; (with_reducible refine (cellaretlaw7_awake.calls k  false _ A4.out).mono ?_); rintro e w32 ⟨rfl, hb⟩; refine ⟨_, rfl, ?_⟩; have n0_ := Aside0.mk (below_step (by repeat (first | (with_reducible first | exact HB.out | apply below_alloc | apply pw_below_drewN | apply below_drew1) | exact HB.out)) hb); clear HB; have HB := n0_; clear n0_; (try clear hb); (try clear hb2); (try clear hk); (try clear hi)))
  go_ret
  exact ⟨by first | rfl | (simp [errW_none, errW_some] <;> rfl) | (simp [*, errW_none, errW_some] <;> rfl), by repeat (first | (with_reducible first | exact HB.out | apply below_alloc | apply pw_below_drewN | apply below_drew1) | exact HB.out)⟩

-- NOT PRINTED: function 13 (cellaretlaw7_BloomOrder)


end Go.Proofs.Ytefalfheeofhhaa.QW
