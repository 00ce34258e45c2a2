/- Laid by a program of this session: what the Go functions answer, as Lean functions, and the walks that prove it; no condition beyond what each statement names. -/
import Derived.Test.YtefalfheeofhhaaQSx0
import Derived.Test.YtefalfheeofhhaaQSx1
namespace Go.Proofs.Ytefalfheeofhhaa.QS
open Go.RowKit Go.Proofs.YtefalfheeofhhaaW.PrintWords Go.Proofs.YtefalfheeofhhaaW.PrintLast Go.Proofs.YtefalfheeofhhaaW.PrintMore
attribute [local go_sem] max2_int min2_int max_two min_two max_three min_three max_four min_four   -- for this text's walks alone
set_option linter.unusedVariables false
set_option linter.unusedSimpArgs false

/-! ### cellaretlaw1_SumBytes: function 7 -/
def cellaretlaw1_SumBytes.j0 : Nat → ByteArray → Int → Int → Bool → Option (Bool)
  | 0, _, _, _, _ => none
  | k + 1, x0, x1, x2, x18 => if x18 = true then (some true) else ((some (([x1] : List Int) : List Int)).bind fun y175 => (if x0.size + (strOfNums y175).size ≤ 9223372036854775807 then ((some (([x2] : List Int) : List Int)).bind fun y178 => (if x0.size + (strOfNums y178).size ≤ 9223372036854775807 then ((sum_Hash.f k (x0 ++ (strOfNums y175))).bind fun t181 => ((sum_Hash.f k (x0 ++ (strOfNums y178))).bind fun t182 => (if t181 = t182 then (some false) else ((sum_Second.f k (x0 ++ (strOfNums y175))).bind fun t183 => ((sum_Second.f k (x0 ++ (strOfNums y178))).bind fun t184 => (if t183 = t184 then (some false) else ((sum_Hash.f k (x0 ++ (strOfNums y175))).bind fun t185 => ((sum_Hash.f k x0).bind fun t186 => (some (t185 == (IntKind.u64.wrap ((Go.bits .xor .u64 t186 (IntKind.u64.wrap (x1))) * 1099511628211)))))))))))) else (none))) else (none)))
def cellaretlaw1_SumBytes.f (k : Nat) (a0 : ByteArray) (a1 : Int) (a2 : Int) : Option (Bool) := (cellaretlaw1_awake.f k).bind fun t174 => (if t174 = true then (if (a0.size : Int) > 1000 then (cellaretlaw1_SumBytes.j0 k a0 a1 a2 true) else (cellaretlaw1_SumBytes.j0 k a0 a1 a2 (a1 == a2))) else (some false))
theorem cellaretlaw1_SumBytes.mono_l : ∀ k, (∀ y0 y1 y2 y3, LeO (cellaretlaw1_SumBytes.j0 k y0 y1 y2 y3) (cellaretlaw1_SumBytes.j0 (k + 1) y0 y1 y2 y3))
  | 0 => fun _ _ _ _ r h => by simp [cellaretlaw1_SumBytes.j0] at h
  | k + 1 => by
    have ih0 := cellaretlaw1_SumBytes.mono_l k
    · intro y0 y1 y2 y3
      unfold cellaretlaw1_SumBytes.j0
      repeat' first
      | (with_reducible exact ih0 _ _ _ _)
      | (with_reducible exact cellaretlaw1_awake.mono _)
      | (with_reducible exact sum_Hash.mono _ _)
      | (with_reducible exact sum_Second.mono _ _)
      | (with_reducible exact LeO.refl _)
      | (with_reducible exact LeO.none _)
      | (with_reducible refine LeO.ite ?_ ?_)
      | (with_reducible refine LeO.bind ?_ (fun _ => ?_))
      | exact ih0 _ _ _ _
      | exact cellaretlaw1_awake.mono _
      | exact sum_Hash.mono _ _
      | exact sum_Second.mono _ _
      | exact LeO.none _
      | refine LeO.ite ?_ ?_
      | refine LeO.bind ?_ (fun _ => ?_)
theorem cellaretlaw1_SumBytes.mono : ∀ a0 a1 a2 k, LeO (cellaretlaw1_SumBytes.f k a0 a1 a2) (cellaretlaw1_SumBytes.f (k + 1) a0 a1 a2) := by
  intro a0 a1 a2 k
  have ih0 := cellaretlaw1_SumBytes.mono_l k
  unfold cellaretlaw1_SumBytes.f
  repeat' first
      | (with_reducible exact ih0 _ _ _ _)
      | (with_reducible exact cellaretlaw1_awake.mono _)
      | (with_reducible exact sum_Hash.mono _ _)
      | (with_reducible exact sum_Second.mono _ _)
      | (with_reducible exact LeO.refl _)
      | (with_reducible exact LeO.none _)
      | (with_reducible refine LeO.ite ?_ ?_)
      | (with_reducible refine LeO.bind ?_ (fun _ => ?_))
      | exact ih0 _ _ _ _
      | exact cellaretlaw1_awake.mono _
      | exact sum_Hash.mono _ _
      | exact sum_Second.mono _ _
      | exact LeO.none _
      | refine LeO.ite ?_ ?_
      | refine LeO.bind ?_ (fun _ => ?_)
set_option maxHeartbeats 8000000 in
set_option maxRecDepth 100000 in
theorem cellaretlaw1_SumBytes.calls (k : Nat) (a0 : ByteArray) (a1 : Int) (a2 : Int) (r : Bool) (w : World) (h : cellaretlaw1_SumBytes.f k a0 a1 a2 = some r) :
    Calls Try.prog 7 #[.string a0, .int .u8 a1, .int .u8 a2] w fun e w' => e = .returned (.bool r) ∧ Below w.heap.size w w' := by
  have HB := Aside0.mk (Below.refl w.heap.size w)
  have H : ((cellaretlaw1_awake.f k).bind fun t174 => (if t174 = true then (if (a0.size : Int) > 1000 then (cellaretlaw1_SumBytes.j0 k a0 a1 a2 true) else (cellaretlaw1_SumBytes.j0 k a0 a1 a2 (a1 == a2))) else (some false))) = some r := h
  clear h
  replace H := Option.bind_eq_some_iff.mp H
  obtain ⟨t174, A40, H⟩ := H
  replace H : (if t174 = true then (if (a0.size : Int) > 1000 then (cellaretlaw1_SumBytes.j0 k a0 a1 a2 true) else (cellaretlaw1_SumBytes.j0 k a0 a1 a2 (a1 == a2))) else (some false)) = some r := H
  have A4 := Aside0.mk A40
  clear A40
  by_cases c5 : t174 = true
  · subst c5
    have H1 : (if (a0.size : Int) > 1000 then (cellaretlaw1_SumBytes.j0 k a0 a1 a2 true) else (cellaretlaw1_SumBytes.j0 k a0 a1 a2 (a1 == a2))) = some r := by rw [if_pos rfl] at H; exact H
    clear H
    have H := H1
    clear H1
    have HC6 := Aside0.mk H
    clear H
    go_enter Try.func7, Try.ntmps7
    go_upto_region 3 with (first | ((with_reducible refine gate_callee (f := 21) rfl ?_); refine goesL_ (some 9) rfl rfl Try.func21 (by kernel_rfl) rfl #[] rfl (by (try simp only [List.map_toArray, List.map_cons, List.map_nil]); first | done | rfl | (simp only [List.length_drop, List.length_take]; rfl)) ?_; (with_reducible refine (cellaretlaw1_awake.calls k  true _ A4.out).mono ?_); rintro e w7 ⟨rfl, hb⟩; refine ⟨_, rfl, ?_⟩; have n0_ := Aside0.mk (below_step (by repeat (first | (with_reducible first | exact HB.out | apply below_alloc | apply pw_below_drewN | apply below_drew1) | exact HB.out)) hb); clear HB; have HB := n0_; clear n0_; (try clear hb); (try clear hb2); (try clear hk); (try clear hi)))
    (try simp only [Act.put, List.setIfInBounds_toArray, List.set_cons_zero, List.set_cons_succ])
    go_cut [18] (fun v18 wc => ∃ (kq : Nat) (x18_5 : Bool), v18 = .bool x18_5 ∧ Aside0 (cellaretlaw1_SumBytes.j0 kq a0 a1 a2 x18_5 = some r) ∧ Aside0 (kq ≤ k) ∧ Aside0 (Below w.heap.size w wc))
    case first =>
      have H := HC6.out
      clear HC6
      by_cases c8 : (a0.size : Int) > 1000
      · rw [if_pos c8] at H
        have c8b0 : decide (1000 < (a0.size : Int)) = true := decide_eq_true c8
        have c8b1 : decide (1000 < a0.size) = true := decide_eq_true (by omega)
        clear c8
        (first | rw [c8b0] | (simp only [i64_w, i32_w]; rw [c8b0]) | skip)
        have H' := Aside0.mk H
        clear H
        go_wp2
        go_meet
        case rel => exact ⟨_, (true), (by first | rfl | (simp; done) | (simp [*]; done)), H', ⟨by first | omega | exact Nat.le_refl _⟩, ⟨by repeat (first | (with_reducible first | exact HB.out | apply below_alloc | apply pw_below_drewN | apply below_drew1) | exact HB.out)⟩⟩
      · rw [if_neg c8] at H
        have c8b0 : decide (1000 < (a0.size : Int)) = false := decide_eq_false c8
        have c8b1 : decide (1000 < a0.size) = false := decide_eq_false (by omega)
        clear c8
        (first | rw [c8b0] | (simp only [i64_w, i32_w]; rw [c8b0]) | skip)
        have H' := Aside0.mk H
        clear H
        go_wp2
        go_meet
        case rel => exact ⟨_, ((a1 == a2)), (by first | rfl | (simp; done) | (simp [*]; done)), H', ⟨by first | omega | exact Nat.le_refl _⟩, ⟨by repeat (first | (with_reducible first | exact HB.out | apply below_alloc | apply pw_below_drewN | apply below_drew1) | exact HB.out)⟩⟩
    case rest =>
      clear HC6
      try clear c2
      try clear p2
      try clear c5
      try clear c7
      try clear c8
      try clear c8b0
      try clear c8b1
      obtain ⟨kq, x18_5, rfl, HA, HJ5, HB⟩ := hcut
      cases kq with
      | zero => exact absurd HA.out (by simp [cellaretlaw1_SumBytes.j0])
      | succ kj5 =>
        have H := HA.out
        clear HA
        simp only [cellaretlaw1_SumBytes.j0] at H
        by_cases c9 : x18_5 = true
        · subst c9
          have H1 : (some true) = some r := by rw [if_pos rfl] at H; exact H
          clear H
          have H := H1
          clear H1
          obtain rfl := Option.some.inj H
          go_wp2
          go_ret
          exact ⟨by first | rfl | (simp [errW_none, errW_some] <;> rfl) | (simp [*, errW_none, errW_some] <;> rfl), by repeat (first | (with_reducible first | exact HB.out | apply below_alloc | apply pw_below_drewN | apply below_drew1) | exact HB.out)⟩
        · replace c9 := Bool.eq_false_iff.mpr c9
          subst c9
          have H1 : ((some (([a1] : List Int) : List Int)).bind fun y175 => (if a0.size + (strOfNums y175).size ≤ 9223372036854775807 then ((some (([a2] : List Int) : List Int)).bind fun y178 => (if a0.size + (strOfNums y178).size ≤ 9223372036854775807 then ((sum_Hash.f kj5 (a0 ++ (strOfNums y175))).bind fun t181 => ((sum_Hash.f kj5 (a0 ++ (strOfNums y178))).bind fun t182 => (if t181 = t182 then (some false) else ((sum_Second.f kj5 (a0 ++ (strOfNums y175))).bind fun t183 => ((sum_Second.f kj5 (a0 ++ (strOfNums y178))).bind fun t184 => (if t183 = t184 then (some false) else ((sum_Hash.f kj5 (a0 ++ (strOfNums y175))).bind fun t185 => ((sum_Hash.f kj5 a0).bind fun t186 => (some (t185 == (IntKind.u64.wrap ((Go.bits .xor .u64 t186 (IntKind.u64.wrap (a1))) * 1099511628211)))))))))))) else (none))) else (none))) = some r := by rw [if_neg (show ¬ (false = true) by decide)] at H; exact H
          clear H
          have H := H1
          clear H1
          obtain ⟨y175, hy175⟩ : ∃ y_ : List Int, y_ = (([a1] : List Int)) := ⟨_, rfl⟩
          replace H : (if a0.size + (strOfNums y175).size ≤ 9223372036854775807 then ((some (([a2] : List Int) : List Int)).bind fun y178 => (if a0.size + (strOfNums y178).size ≤ 9223372036854775807 then ((sum_Hash.f kj5 (a0 ++ (strOfNums y175))).bind fun t181 => ((sum_Hash.f kj5 (a0 ++ (strOfNums y178))).bind fun t182 => (if t181 = t182 then (some false) else ((sum_Second.f kj5 (a0 ++ (strOfNums y175))).bind fun t183 => ((sum_Second.f kj5 (a0 ++ (strOfNums y178))).bind fun t184 => (if t183 = t184 then (some false) else ((sum_Hash.f kj5 (a0 ++ (strOfNums y175))).bind fun t185 => ((sum_Hash.f kj5 a0).bind fun t186 => (some (t185 == (IntKind.u64.wrap ((Go.bits .xor .u64 t186 (IntKind.u64.wrap (a1))) * 1099511628211)))))))))))) else (none))) else (none)) = some r := by first | (rw [hy175]; with_reducible exact H) | (have H2_ := (Option.bind_some _ _).symm.trans H; rw [hy175]; with_reducible exact H2_) | (have H2_ := (Option.bind_some _ _).symm.trans H; with_reducible exact H2_) | with_reducible exact H | (rw [hy175]; exact H) | exact H
          have Ny175 := Aside0.mk hy175
          clear hy175
          by_cases c10 : a0.size + (strOfNums y175).size ≤ 9223372036854775807
          · rw [if_pos c10] at H
            have c10b0 := eq_true c10
            have c10b1 : decide (a0.size + (strOfNums y175).size ≤ 9223372036854775807) = true := decide_eq_true c10
            try have c10b2 : (9223372036854775807 < a0.size + (strOfNums y175).size) = False := eq_false (Nat.not_lt.2 c10)
            obtain ⟨y178, hy178⟩ : ∃ y_ : List Int, y_ = (([a2] : List Int)) := ⟨_, rfl⟩
            replace H : (if a0.size + (strOfNums y178).size ≤ 9223372036854775807 then ((sum_Hash.f kj5 (a0 ++ (strOfNums y175))).bind fun t181 => ((sum_Hash.f kj5 (a0 ++ (strOfNums y178))).bind fun t182 => (if t181 = t182 then (some false) else ((sum_Second.f kj5 (a0 ++ (strOfNums y175))).bind fun t183 => ((sum_Second.f kj5 (a0 ++ (strOfNums y178))).bind fun t184 => (if t183 = t184 then (some false) else ((sum_Hash.f kj5 (a0 ++ (strOfNums y175))).bind fun t185 => ((sum_Hash.f kj5 a0).bind fun t186 => (some (t185 == (IntKind.u64.wrap ((Go.bits .xor .u64 t186 (IntKind.u64.wrap (a1))) * 1099511628211)))))))))))) else (none)) = some r := by first | (rw [hy178]; with_reducible exact H) | (have H2_ := (Option.bind_some _ _).symm.trans H; rw [hy178]; with_reducible exact H2_) | (have H2_ := (Option.bind_some _ _).symm.trans H; with_reducible exact H2_) | with_reducible exact H | (rw [hy178]; exact H) | exact H
            have Ny178 := Aside0.mk hy178
            clear hy178
            by_cases c11 : a0.size + (strOfNums y178).size ≤ 9223372036854775807
            · rw [if_pos c11] at H
              have c11b0 := eq_true c11
              have c11b1 : decide (a0.size + (strOfNums y178).size ≤ 9223372036854775807) = true := decide_eq_true c11
              try have c11b2 : (9223372036854775807 < a0.size + (strOfNums y178).size) = False := eq_false (Nat.not_lt.2 c11)
              replace H := Option.bind_eq_some_iff.mp H
              obtain ⟨t181, A120, H⟩ := H
              replace H : ((sum_Hash.f kj5 (a0 ++ (strOfNums y178))).bind fun t182 => (if t181 = t182 then (some false) else ((sum_Second.f kj5 (a0 ++ (strOfNums y175))).bind fun t183 => ((sum_Second.f kj5 (a0 ++ (strOfNums y178))).bind fun t184 => (if t183 = t184 then (some false) else ((sum_Hash.f kj5 (a0 ++ (strOfNums y175))).bind fun t185 => ((sum_Hash.f kj5 a0).bind fun t186 => (some (t185 == (IntKind.u64.wrap ((Go.bits .xor .u64 t186 (IntKind.u64.wrap (a1))) * 1099511628211))))))))))) = some r := H
              have A12 := Aside0.mk A120
              clear A120
              replace H := Option.bind_eq_some_iff.mp H
              obtain ⟨t182, A130, H⟩ := H
              replace H : (if t181 = t182 then (some false) else ((sum_Second.f kj5 (a0 ++ (strOfNums y175))).bind fun t183 => ((sum_Second.f kj5 (a0 ++ (strOfNums y178))).bind fun t184 => (if t183 = t184 then (some false) else ((sum_Hash.f kj5 (a0 ++ (strOfNums y175))).bind fun t185 => ((sum_Hash.f kj5 a0).bind fun t186 => (some (t185 == (IntKind.u64.wrap ((Go.bits .xor .u64 t186 (IntKind.u64.wrap (a1))) * 1099511628211)))))))))) = some r := H
              have A13 := Aside0.mk A130
              clear A130
              by_cases c14 : t181 = t182
              · rw [if_pos c14] at H
                have c14b0 : (t181 == t182) = true := beq_iff_eq.mpr c14
                have c14b1 : (t181 != t182) = false := bne_eq_false_iff_eq.mpr c14
                clear c14
                obtain rfl := Option.some.inj H
                go_wp2_with (first | ((with_reducible refine gate_dst (N := 21) rfl ?_); refine Kd.R_lit (Kd.int .u8) _ 5 ?hg (N := 21) ?hd (xs := ([a1] : List Int)) (inner := [.int .u8 a1]) (ok := fun _ => True) (okp := fun _ => True) ?hr ?hp (fun _ hk => hk) trivial (Below.refl _ _) (Nat.le_refl _) (by simp) ?_; (case hd => rfl); (case hg => rfl); (case hr => first | (go_simp; done) | (go_simp; rfl)); (case hp => exact (Reps.one (show Kd.M (Kd.int .u8) _ _ _ a1 [.int .u8 a1] from rfl) (Reps.none _ _))); intro v176 w15 ho16 hb hg_ hnew_; clear hg_ hnew_; (first | rw [← Ny175.out] at ho16 | (simp only [Int.reduceToNat] at ho16; rw [← Ny175.out] at ho16)); have n0_ := Aside0.mk (Kd.R_lower ho16 (below_size (by repeat (first | (with_reducible first | exact HB.out | apply below_alloc | apply pw_below_drewN | apply below_drew1) | exact HB.out)))); have n1_ := Aside0.mk (below_step (by repeat (first | (with_reducible first | exact HB.out | apply below_alloc | apply pw_below_drewN | apply below_drew1) | exact HB.out)) hb); clear HB; have HO177 := n0_; have HB := n1_; clear n0_ n1_; clear hb ho16; have hcv17 := own_string (P := Try.prog) Try.underlying28 Try.underlying5 Try.underlying9 (Kd.own_of_R HO177.out)) | ((with_reducible refine gate_dst (N := 26) rfl ?_); refine Kd.R_lit (Kd.int .u8) _ 5 ?hg (N := 26) ?hd (xs := ([a2] : List Int)) (inner := [.int .u8 a2]) (ok := fun _ => True) (okp := fun _ => True) ?hr ?hp (fun _ hk => hk) trivial (Below.refl _ _) (Nat.le_refl _) (by simp) ?_; (case hd => rfl); (case hg => rfl); (case hr => first | (go_simp; done) | (go_simp; rfl)); (case hp => exact (Reps.one (show Kd.M (Kd.int .u8) _ _ _ a2 [.int .u8 a2] from rfl) (Reps.none _ _))); intro v179 w18 ho19 hb hg_ hnew_; clear hg_ hnew_; (first | rw [← Ny178.out] at ho19 | (simp only [Int.reduceToNat] at ho19; rw [← Ny178.out] at ho19)); have n0_ := Aside0.mk (Kd.R_elder' (by (with_reducible repeat (first | apply Kd.R_alloc | apply Kd.R_drewN | apply Kd.R_drew)); exact HO177.out) (Kd.R_base ho19) hb); have n1_ := Aside0.mk (Kd.R_lower (Kd.R_new' ho19 (Kd.R_lt (by (with_reducible repeat (first | apply Kd.R_alloc | apply Kd.R_drewN | apply Kd.R_drew)); exact HO177.out))) (below_size (by repeat (first | (with_reducible first | exact HB.out | apply below_alloc | apply pw_below_drewN | apply below_drew1) | exact HB.out)))); have n2_ := Aside0.mk (below_step (by repeat (first | (with_reducible first | exact HB.out | apply below_alloc | apply pw_below_drewN | apply below_drew1) | exact HB.out)) hb); clear HO177; clear HB; have HO177 := n0_; have HO180 := n1_; have HB := n2_; clear n0_ n1_ n2_; clear hb ho19; have hcv20 := own_string (P := Try.prog) Try.underlying28 Try.underlying5 Try.underlying9 (Kd.own_of_R HO180.out)) | ((with_reducible refine gate_callee (f := 28) rfl ?_); refine goesL_ (some 30) rfl rfl Try.func28 (by kernel_rfl) rfl #[.string (a0 ++ (strOfNums y175))] rfl (by (try simp only [List.map_toArray, List.map_cons, List.map_nil]); first | done | rfl | (simp only [List.length_drop, List.length_take]; rfl)) ?_; (with_reducible refine (sum_Hash.calls kj5 (a0 ++ (strOfNums y175)) t181 _ A12.out).mono ?_); rintro e w' ⟨rfl, ⟨nd, rfl⟩⟩; refine ⟨_, rfl, ?_⟩) | ((with_reducible refine gate_callee (f := 28) rfl ?_); refine goesL_ (some 32) rfl rfl Try.func28 (by kernel_rfl) rfl #[.string (a0 ++ (strOfNums y178))] rfl (by (try simp only [List.map_toArray, List.map_cons, List.map_nil]); first | done | rfl | (simp only [List.length_drop, List.length_take]; rfl)) ?_; (with_reducible refine (sum_Hash.calls kj5 (a0 ++ (strOfNums y178)) t182 _ A13.out).mono ?_); rintro e w' ⟨rfl, ⟨nd, rfl⟩⟩; refine ⟨_, rfl, ?_⟩))
                go_ret
                exact ⟨by first | rfl | (simp [errW_none, errW_some] <;> rfl) | (simp [*, errW_none, errW_some] <;> rfl), by repeat (first | (with_reducible first | exact HB.out | apply below_alloc | apply pw_below_drewN | apply below_drew1) | exact HB.out)⟩
              · rw [if_neg c14] at H
                have c14b0 : (t181 == t182) = false := beq_eq_false_iff_ne.mpr c14
                have c14b1 : (t181 != t182) = true := bne_iff_ne.mpr c14
                replace H := Option.bind_eq_some_iff.mp H
                obtain ⟨t183, A210, H⟩ := H
                replace H : ((sum_Second.f kj5 (a0 ++ (strOfNums y178))).bind fun t184 => (if t183 = t184 then (some false) else ((sum_Hash.f kj5 (a0 ++ (strOfNums y175))).bind fun t185 => ((sum_Hash.f kj5 a0).bind fun t186 => (some (t185 == (IntKind.u64.wrap ((Go.bits .xor .u64 t186 (IntKind.u64.wrap (a1))) * 1099511628211)))))))) = some r := H
                have A21 := Aside0.mk A210
                clear A210
                replace H := Option.bind_eq_some_iff.mp H
                obtain ⟨t184, A220, H⟩ := H
                replace H : (if t183 = t184 then (some false) else ((sum_Hash.f kj5 (a0 ++ (strOfNums y175))).bind fun t185 => ((sum_Hash.f kj5 a0).bind fun t186 => (some (t185 == (IntKind.u64.wrap ((Go.bits .xor .u64 t186 (IntKind.u64.wrap (a1))) * 1099511628211))))))) = some r := H
                have A22 := Aside0.mk A220
                clear A220
                by_cases c23 : t183 = t184
                · rw [if_pos c23] at H
                  have c23b0 : (t183 == t184) = true := beq_iff_eq.mpr c23
                  have c23b1 : (t183 != t184) = false := bne_eq_false_iff_eq.mpr c23
                  clear c23
                  obtain rfl := Option.some.inj H
                  go_wp2_with (first | ((with_reducible refine gate_dst (N := 21) rfl ?_); refine Kd.R_lit (Kd.int .u8) _ 5 ?hg (N := 21) ?hd (xs := ([a1] : List Int)) (inner := [.int .u8 a1]) (ok := fun _ => True) (okp := fun _ => True) ?hr ?hp (fun _ hk => hk) trivial (Below.refl _ _) (Nat.le_refl _) (by simp) ?_; (case hd => rfl); (case hg => rfl); (case hr => first | (go_simp; done) | (go_simp; rfl)); (case hp => exact (Reps.one (show Kd.M (Kd.int .u8) _ _ _ a1 [.int .u8 a1] from rfl) (Reps.none _ _))); intro v176 w24 ho25 hb hg_ hnew_; clear hg_ hnew_; (first | rw [← Ny175.out] at ho25 | (simp only [Int.reduceToNat] at ho25; rw [← Ny175.out] at ho25)); have n0_ := Aside0.mk (Kd.R_lower ho25 (below_size (by repeat (first | (with_reducible first | exact HB.out | apply below_alloc | apply pw_below_drewN | apply below_drew1) | exact HB.out)))); have n1_ := Aside0.mk (below_step (by repeat (first | (with_reducible first | exact HB.out | apply below_alloc | apply pw_below_drewN | apply below_drew1) | exact HB.out)) hb); clear HB; have HO177 := n0_; have HB := n1_; clear n0_ n1_; clear hb ho25; have hcv26 := own_string (P := Try.prog) Try.underlying28 Try.underlying5 Try.underlying9 (Kd.own_of_R HO177.out)) | ((with_reducible refine gate_dst (N := 26) rfl ?_); refine Kd.R_lit (Kd.int .u8) _ 5 ?hg (N := 26) ?hd (xs := ([a2] : List Int)) (inner := [.int .u8 a2]) (ok := fun _ => True) (okp := fun _ => True) ?hr ?hp (fun _ hk => hk) trivial (Below.refl _ _) (Nat.le_refl _) (by simp) ?_; (case hd => rfl); (case hg => rfl); (case hr => first | (go_simp; done) | (go_simp; rfl)); (case hp => exact (Reps.one (show Kd.M (Kd.int .u8) _ _ _ a2 [.int .u8 a2] from rfl) (Reps.none _ _))); intro v179 w27 ho28 hb hg_ hnew_; clear hg_ hnew_; (first | rw [← Ny178.out] at ho28 | (simp only [Int.reduceToNat] at ho28; rw [← Ny178.out] at ho28)); have n0_ := Aside0.mk (Kd.R_elder' (by (with_reducible repeat (first | apply Kd.R_alloc | apply Kd.R_drewN | apply Kd.R_drew)); exact HO177.out) (Kd.R_base ho28) hb); have n1_ := Aside0.mk (Kd.R_lower (Kd.R_new' ho28 (Kd.R_lt (by (with_reducible repeat (first | apply Kd.R_alloc | apply Kd.R_drewN | apply Kd.R_drew)); exact HO177.out))) (below_size (by repeat (first | (with_reducible first | exact HB.out | apply below_alloc | apply pw_below_drewN | apply below_drew1) | exact HB.out)))); have n2_ := Aside0.mk (below_step (by repeat (first | (with_reducible first | exact HB.out | apply below_alloc | apply pw_below_drewN | apply below_drew1) | exact HB.out)) hb); clear HO177; clear HB; have HO177 := n0_; have HO180 := n1_; have HB := n2_; clear n0_ n1_ n2_; clear hb ho28; have hcv29 := own_string (P := Try.prog) Try.underlying28 Try.underlying5 Try.underlying9 (Kd.own_of_R HO180.out)) | ((with_reducible refine gate_callee (f := 28) rfl ?_); refine goesL_ (some 30) rfl rfl Try.func28 (by kernel_rfl) rfl #[.string (a0 ++ (strOfNums y175))] rfl (by (try simp only [List.map_toArray, List.map_cons, List.map_nil]); first | done | rfl | (simp only [List.length_drop, List.length_take]; rfl)) ?_; (with_reducible refine (sum_Hash.calls kj5 (a0 ++ (strOfNums y175)) t181 _ A12.out).mono ?_); rintro e w' ⟨rfl, ⟨nd, rfl⟩⟩; refine ⟨_, rfl, ?_⟩) | ((with_reducible refine gate_callee (f := 28) rfl ?_); refine goesL_ (some 32) rfl rfl Try.func28 (by kernel_rfl) rfl #[.string (a0 ++ (strOfNums y178))] rfl (by (try simp only [List.map_toArray, List.map_cons, List.map_nil]); first | done | rfl | (simp only [List.length_drop, List.length_take]; rfl)) ?_; (with_reducible refine (sum_Hash.calls kj5 (a0 ++ (strOfNums y178)) t182 _ A13.out).mono ?_); rintro e w' ⟨rfl, ⟨nd, rfl⟩⟩; refine ⟨_, rfl, ?_⟩) | (go_at_call 24; (with_reducible refine (sum_Second.calls kj5 (a0 ++ (strOfNums y175)) t183 _ A21.out).mono ?_); rintro e w' ⟨rfl, ⟨nd, rfl⟩⟩) | (go_at_call 24; (with_reducible refine (sum_Second.calls kj5 (a0 ++ (strOfNums y178)) t184 _ A22.out).mono ?_); rintro e w' ⟨rfl, ⟨nd, rfl⟩⟩))
                  go_ret
                  exact ⟨by first | rfl | (simp [errW_none, errW_some] <;> rfl) | (simp [*, errW_none, errW_some] <;> rfl), by repeat (first | (with_reducible first | exact HB.out | apply below_alloc | apply pw_below_drewN | apply below_drew1) | exact HB.out)⟩
                · rw [if_neg c23] at H
                  have c23b0 : (t183 == t184) = false := beq_eq_false_iff_ne.mpr c23
                  have c23b1 : (t183 != t184) = true := bne_iff_ne.mpr c23
                  replace H := Option.bind_eq_some_iff.mp H
                  obtain ⟨t185, A300, H⟩ := H
                  replace H : ((sum_Hash.f kj5 a0).bind fun t186 => (some (t185 == (IntKind.u64.wrap ((Go.bits .xor .u64 t186 (IntKind.u64.wrap (a1))) * 1099511628211))))) = some r := H
                  have A30 := Aside0.mk A300
                  clear A300
                  replace H := Option.bind_eq_some_iff.mp H
                  obtain ⟨t186, A310, H⟩ := H
                  replace H : (some (t185 == (IntKind.u64.wrap ((Go.bits .xor .u64 t186 (IntKind.u64.wrap (a1))) * 1099511628211)))) = some r := H
                  have A31 := Aside0.mk A310
                  clear A310
                  obtain rfl := Option.some.inj H
                  go_wp2_with (first | ((with_reducible refine gate_dst (N := 21) rfl ?_); refine Kd.R_lit (Kd.int .u8) _ 5 ?hg (N := 21) ?hd (xs := ([a1] : List Int)) (inner := [.int .u8 a1]) (ok := fun _ => True) (okp := fun _ => True) ?hr ?hp (fun _ hk => hk) trivial (Below.refl _ _) (Nat.le_refl _) (by simp) ?_; (case hd => rfl); (case hg => rfl); (case hr => first | (go_simp; done) | (go_simp; rfl)); (case hp => exact (Reps.one (show Kd.M (Kd.int .u8) _ _ _ a1 [.int .u8 a1] from rfl) (Reps.none _ _))); intro v176 w32 ho33 hb hg_ hnew_; clear hg_ hnew_; (first | rw [← Ny175.out] at ho33 | (simp only [Int.reduceToNat] at ho33; rw [← Ny175.out] at ho33)); have n0_ := Aside0.mk (Kd.R_lower ho33 (below_size (by repeat (first | (with_reducible first | exact HB.out | apply below_alloc | apply pw_below_drewN | apply below_drew1) | exact HB.out)))); have n1_ := Aside0.mk (below_step (by repeat (first | (with_reducible first | exact HB.out | apply below_alloc | apply pw_below_drewN | apply below_drew1) | exact HB.out)) hb); clear HB; have HO177 := n0_; have HB := n1_; clear n0_ n1_; clear hb ho33; have hcv34 := own_string (P := Try.prog) Try.underlying28 Try.underlying5 Try.underlying9 (Kd.own_of_R HO177.out)) | ((with_reducible refine gate_dst (N := 26) rfl ?_); refine Kd.R_lit (Kd.int .u8) _ 5 ?hg (N := 26) ?hd (xs := ([a2] : List Int)) (inner := [.int .u8 a2]) (ok := fun _ => True) (okp := fun _ => True) ?hr ?hp (fun _ hk => hk) trivial (Below.refl _ _) (Nat.le_refl _) (by simp) ?_; (case hd => rfl); (case hg => rfl); (case hr => first | (go_simp; done) | (go_simp; rfl)); (case hp => exact (Reps.one (show Kd.M (Kd.int .u8) _ _ _ a2 [.int .u8 a2] from rfl) (Reps.none _ _))); intro v179 w35 ho36 hb hg_ hnew_; clear hg_ hnew_; (first | rw [← Ny178.out] at ho36 | (simp only [Int.reduceToNat] at ho36; rw [← Ny178.out] at ho36)); have n0_ := Aside0.mk (Kd.R_elder' (by (with_reducible repeat (first | apply Kd.R_alloc | apply Kd.R_drewN | apply Kd.R_drew)); exact HO177.out) (Kd.R_base ho36) hb); have n1_ := Aside0.mk (Kd.R_lower (Kd.R_new' ho36 (Kd.R_lt (by (with_reducible repeat (first | apply Kd.R_alloc | apply Kd.R_drewN | apply Kd.R_drew)); exact HO177.out))) (below_size (by repeat (first | (with_reducible first | exact HB.out | apply below_alloc | apply pw_below_drewN | apply below_drew1) | exact HB.out)))); have n2_ := Aside0.mk (below_step (by repeat (first | (with_reducible first | exact HB.out | apply below_alloc | apply pw_below_drewN | apply below_drew1) | exact HB.out)) hb); clear HO177; clear HB; have HO177 := n0_; have HO180 := n1_; have HB := n2_; clear n0_ n1_ n2_; clear hb ho36; have hcv37 := own_string (P := Try.prog) Try.underlying28 Try.underlying5 Try.underlying9 (Kd.own_of_R HO180.out)) | ((with_reducible refine gate_callee (f := 28) rfl ?_); refine goesL_ (some 30) rfl rfl Try.func28 (by kernel_rfl) rfl #[.string (a0 ++ (strOfNums y175))] rfl (by (try simp only [List.map_toArray, List.map_cons, List.map_nil]); first | done | rfl | (simp only [List.length_drop, List.length_take]; rfl)) ?_; (with_reducible refine (sum_Hash.calls kj5 (a0 ++ (strOfNums y175)) t181 _ A12.out).mono ?_); rintro e w' ⟨rfl, ⟨nd, rfl⟩⟩; refine ⟨_, rfl, ?_⟩) | ((with_reducible refine gate_callee (f := 28) rfl ?_); refine goesL_ (some 32) rfl rfl Try.func28 (by kernel_rfl) rfl #[.string (a0 ++ (strOfNums y178))] rfl (by (try simp only [List.map_toArray, List.map_cons, List.map_nil]); first | done | rfl | (simp only [List.length_drop, List.length_take]; rfl)) ?_; (with_reducible refine (sum_Hash.calls kj5 (a0 ++ (strOfNums y178)) t182 _ A13.out).mono ?_); rintro e w' ⟨rfl, ⟨nd, rfl⟩⟩; refine ⟨_, rfl, ?_⟩) | (go_at_call 24; (with_reducible refine (sum_Second.calls kj5 (a0 ++ (strOfNums y175)) t183 _ A21.out).mono ?_); rintro e w' ⟨rfl, ⟨nd, rfl⟩⟩) | (go_at_call 24; (with_reducible refine (sum_Second.calls kj5 (a0 ++ (strOfNums y178)) t184 _ A22.out).mono ?_); rintro e w' ⟨rfl, ⟨nd, rfl⟩⟩) | (go_at_call 28; (with_reducible refine (sum_Hash.calls kj5 (a0 ++ (strOfNums y175)) t185 _ A30.out).mono ?_); rintro e w' ⟨rfl, ⟨nd, rfl⟩⟩) | (go_at_call 28; (with_reducible refine (sum_Hash.calls kj5 a0 t186 _ A31.out).mono ?_); rintro e w' ⟨rfl, ⟨nd, rfl⟩⟩))
                  go_ret
                  exact ⟨by first | rfl | (simp [errW_none, errW_some] <;> rfl) | (simp [*, errW_none, errW_some] <;> rfl), by repeat (first | (with_reducible first | exact HB.out | apply below_alloc | apply pw_below_drewN | apply below_drew1) | exact HB.out)⟩
            · rw [if_neg c11] at H
              exact absurd H (by simp)
          · rw [if_neg c10] at H
            exact absurd H (by simp)
  · replace c5 := Bool.eq_false_iff.mpr c5
    subst c5
    have H1 : (some false) = some r := by rw [if_neg (show ¬ (false = true) by decide)] at H; exact H
    clear H
    have H := H1
    clear H1
    obtain rfl := Option.some.inj H
    go_enter Try.func7, Try.ntmps7
    go_wp2_with (first | ((with_reducible refine gate_callee (f := 21) rfl ?_); refine goesL_ (some 9) rfl rfl Try.func21 (by kernel_rfl) rfl #[] rfl (by (try simp only [List.map_toArray, List.map_cons, List.map_nil]); first | done | rfl | (simp only [List.length_drop, List.length_take]; rfl)) ?_; (with_reducible refine (cellaretlaw1_awake.calls k  false _ A4.out).mono ?_); rintro e w38 ⟨rfl, hb⟩; refine ⟨_, rfl, ?_⟩; have n0_ := Aside0.mk (below_step (by repeat (first | (with_reducible first | exact HB.out | apply below_alloc | apply pw_below_drewN | apply below_drew1) | exact HB.out)) hb); clear HB; have HB := n0_; clear n0_; (try clear hb); (try clear hb2); (try clear hk); (try clear hi)))
    go_ret
    exact ⟨by first | rfl | (simp [errW_none, errW_some] <;> rfl) | (simp [*, errW_none, errW_some] <;> rfl), by repeat (first | (with_reducible first | exact HB.out | apply below_alloc | apply pw_below_drewN | apply below_drew1) | exact HB.out)⟩

/-- THE ONE PURE STATEMENT of cellaretlaw1_SumBytes: yours. -/
def cellaretlaw1_SumBytes.Pure : Prop := ∀ (a0 : ByteArray) (a1 : Int) (a2 : Int), a0.size ≤ 140737488351232 → (Lit.int .u8 a1).wf = true → (Lit.int .u8 a2).wf = true → ∃ k, cellaretlaw1_SumBytes.f k a0 a1 a2 = some true
theorem cellaretlaw1_SumBytes.walk (P : cellaretlaw1_SumBytes.Pure) (a0 : ByteArray) (a1 : Int) (a2 : Int) (w : World) (w0 : a0.size ≤ 140737488351232) (w1 : (Lit.int .u8 a1).wf = true) (w2 : (Lit.int .u8 a2).wf = true) :
    Calls Try.prog 7 #[.string a0, .int .u8 a1, .int .u8 a2] w fun e w' => e = .returned (.bool true) ∧ Below w.heap.size w w' := by
  obtain ⟨k, h⟩ := P a0 a1 a2 w0 w1 w2
  refine (cellaretlaw1_SumBytes.calls k a0 a1 a2 true w h).mono ?_
  rintro e w' ⟨rfl, hd⟩
  exact ⟨rfl, hd⟩

/-! ### cellaretlaw1_SumZeros: function 8 -/
mutual
def cellaretlaw1_SumZeros.j0 : Nat → ByteArray → Int → Bool → Option (Bool)
  | 0, _, _, _ => none
  | k + 1, x0, x1, x20 => if x20 = true then (some true) else ((sum_Hash.f k x0).bind fun t188 => (cellaretlaw1_SumZeros.l0 k x0 x1 t188 0))
def cellaretlaw1_SumZeros.l0 : Nat → ByteArray → Int → Int → Int → Option (Bool)
  | 0, _, _, _, _ => none
  | k + 1, x0, x1, x5, x6 => if x6 < x1 then (cellaretlaw1_SumZeros.l0 k x0 x1 (IntKind.u64.wrap (x5 * 1099511628211)) (wrap64 (x6 + 1))) else (if 0 ≤ x1 then (if (x1 : Int).toNat ≤ 281474976710656 then ((some (List.replicate (x1 : Int).toNat 0 : List Int)).bind fun y189 => (if x0.size + (strOfNums y189).size ≤ 9223372036854775807 then ((sum_Hash.f k (x0 ++ (strOfNums y189))).bind fun t192 => (if t192 = x5 then (if (x0 ++ (strOfNums y189)).size ≤ 9223372036854775807 then ((sum_Crc.f k (bytesOf (x0 ++ (strOfNums y189)))).bind fun t196 => (if x0.size ≤ 9223372036854775807 then ((sum_Crc.f k (bytesOf x0)).bind fun t200 => ((sum_More.f k t200 y189).bind fun t201 => (some (t196 == t201)))) else (none))) else (none)) else (some false))) else (none))) else (none)) else (none))
end
def cellaretlaw1_SumZeros.f (k : Nat) (a0 : ByteArray) (a1 : Int) : Option (Bool) := (cellaretlaw1_awake.f k).bind fun t187 => (if t187 = true then (if (a0.size : Int) > 500 then (cellaretlaw1_SumZeros.j0 k a0 a1 true) else (if a1 < 1 then (cellaretlaw1_SumZeros.j0 k a0 a1 true) else (cellaretlaw1_SumZeros.j0 k a0 a1 (decide (a1 > 200))))) else (some false))
theorem cellaretlaw1_SumZeros.mono_l : ∀ k, (∀ y0 y1 y2, LeO (cellaretlaw1_SumZeros.j0 k y0 y1 y2) (cellaretlaw1_SumZeros.j0 (k + 1) y0 y1 y2)) ∧ (∀ y0 y1 y2 y3, LeO (cellaretlaw1_SumZeros.l0 k y0 y1 y2 y3) (cellaretlaw1_SumZeros.l0 (k + 1) y0 y1 y2 y3))
  | 0 => ⟨fun _ _ _ r h => by simp [cellaretlaw1_SumZeros.j0] at h, fun _ _ _ _ r h => by simp [cellaretlaw1_SumZeros.l0] at h⟩
  | k + 1 => by
    obtain ⟨ih0, ih1⟩ := cellaretlaw1_SumZeros.mono_l k
    refine ⟨?_, ?_⟩
    · intro y0 y1 y2
      unfold cellaretlaw1_SumZeros.j0
      repeat' first
      | (with_reducible exact ih0 _ _ _)
      | (with_reducible exact ih1 _ _ _ _)
      | (with_reducible exact cellaretlaw1_awake.mono _)
      | (with_reducible exact sum_Crc.mono _ _)
      | (with_reducible exact sum_Hash.mono _ _)
      | (with_reducible exact sum_More.mono _ _ _)
      | (with_reducible exact LeO.refl _)
      | (with_reducible exact LeO.none _)
      | (with_reducible refine LeO.ite ?_ ?_)
      | (with_reducible refine LeO.bind ?_ (fun _ => ?_))
      | exact ih0 _ _ _
      | exact ih1 _ _ _ _
      | exact cellaretlaw1_awake.mono _
      | exact sum_Crc.mono _ _
      | exact sum_Hash.mono _ _
      | exact sum_More.mono _ _ _
      | exact LeO.none _
      | refine LeO.ite ?_ ?_
      | refine LeO.bind ?_ (fun _ => ?_)
    · intro y0 y1 y2 y3
      unfold cellaretlaw1_SumZeros.l0
      repeat' first
      | (with_reducible exact ih0 _ _ _)
      | (with_reducible exact ih1 _ _ _ _)
      | (with_reducible exact cellaretlaw1_awake.mono _)
      | (with_reducible exact sum_Crc.mono _ _)
      | (with_reducible exact sum_Hash.mono _ _)
      | (with_reducible exact sum_More.mono _ _ _)
      | (with_reducible exact LeO.refl _)
      | (with_reducible exact LeO.none _)
      | (with_reducible refine LeO.ite ?_ ?_)
      | (with_reducible refine LeO.bind ?_ (fun _ => ?_))
      | exact ih0 _ _ _
      | exact ih1 _ _ _ _
      | exact cellaretlaw1_awake.mono _
      | exact sum_Crc.mono _ _
      | exact sum_Hash.mono _ _
      | exact sum_More.mono _ _ _
      | exact LeO.none _
      | refine LeO.ite ?_ ?_
      | refine LeO.bind ?_ (fun _ => ?_)
theorem cellaretlaw1_SumZeros.mono : ∀ a0 a1 k, LeO (cellaretlaw1_SumZeros.f k a0 a1) (cellaretlaw1_SumZeros.f (k + 1) a0 a1) := by
  intro a0 a1 k
  obtain ⟨ih0, ih1⟩ := cellaretlaw1_SumZeros.mono_l k
  unfold cellaretlaw1_SumZeros.f
  repeat' first
      | (with_reducible exact ih0 _ _ _)
      | (with_reducible exact ih1 _ _ _ _)
      | (with_reducible exact cellaretlaw1_awake.mono _)
      | (with_reducible exact sum_Crc.mono _ _)
      | (with_reducible exact sum_Hash.mono _ _)
      | (with_reducible exact sum_More.mono _ _ _)
      | (with_reducible exact LeO.refl _)
      | (with_reducible exact LeO.none _)
      | (with_reducible refine LeO.ite ?_ ?_)
      | (with_reducible refine LeO.bind ?_ (fun _ => ?_))
      | exact ih0 _ _ _
      | exact ih1 _ _ _ _
      | exact cellaretlaw1_awake.mono _
      | exact sum_Crc.mono _ _
      | exact sum_Hash.mono _ _
      | exact sum_More.mono _ _ _
      | exact LeO.none _
      | refine LeO.ite ?_ ?_
      | refine LeO.bind ?_ (fun _ => ?_)
set_option maxHeartbeats 8000000 in
set_option maxRecDepth 100000 in
theorem cellaretlaw1_SumZeros.calls (k : Nat) (a0 : ByteArray) (a1 : Int) (r : Bool) (w : World) (h : cellaretlaw1_SumZeros.f k a0 a1 = some r) :
    Calls Try.prog 8 #[.string a0, .int .i64 a1] w fun e w' => e = .returned (.bool r) ∧ Below w.heap.size w w' := by
  have HB := Aside0.mk (Below.refl w.heap.size w)
  have H : ((cellaretlaw1_awake.f k).bind fun t187 => (if t187 = true then (if (a0.size : Int) > 500 then (cellaretlaw1_SumZeros.j0 k a0 a1 true) else (if a1 < 1 then (cellaretlaw1_SumZeros.j0 k a0 a1 true) else (cellaretlaw1_SumZeros.j0 k a0 a1 (decide (a1 > 200))))) else (some false))) = some r := h
  clear h
  replace H := Option.bind_eq_some_iff.mp H
  obtain ⟨t187, A30, H⟩ := H
  replace H : (if t187 = true then (if (a0.size : Int) > 500 then (cellaretlaw1_SumZeros.j0 k a0 a1 true) else (if a1 < 1 then (cellaretlaw1_SumZeros.j0 k a0 a1 true) else (cellaretlaw1_SumZeros.j0 k a0 a1 (decide (a1 > 200))))) else (some false)) = some r := H
  have A3 := Aside0.mk A30
  clear A30
  by_cases c4 : t187 = true
  · subst c4
    have H1 : (if (a0.size : Int) > 500 then (cellaretlaw1_SumZeros.j0 k a0 a1 true) else (if a1 < 1 then (cellaretlaw1_SumZeros.j0 k a0 a1 true) else (cellaretlaw1_SumZeros.j0 k a0 a1 (decide (a1 > 200))))) = some r := by rw [if_pos rfl] at H; exact H
    clear H
    have H := H1
    clear H1
    have HC5 := Aside0.mk H
    clear H
    go_enter Try.func8, Try.ntmps8
    go_upto_region 3 with (first | ((with_reducible refine gate_callee (f := 21) rfl ?_); refine goesL_ (some 8) rfl rfl Try.func21 (by kernel_rfl) rfl #[] rfl (by (try simp only [List.map_toArray, List.map_cons, List.map_nil]); first | done | rfl | (simp only [List.length_drop, List.length_take]; rfl)) ?_; (with_reducible refine (cellaretlaw1_awake.calls k  true _ A3.out).mono ?_); rintro e w6 ⟨rfl, hb⟩; refine ⟨_, rfl, ?_⟩; have n0_ := Aside0.mk (below_step (by repeat (first | (with_reducible first | exact HB.out | apply below_alloc | apply pw_below_drewN | apply below_drew1) | exact HB.out)) hb); clear HB; have HB := n0_; clear n0_; (try clear hb); (try clear hb2); (try clear hk); (try clear hi)))
    (try simp only [Act.put, List.setIfInBounds_toArray, List.set_cons_zero, List.set_cons_succ])
    go_cut [20] (fun v20 wc => ∃ (kq : Nat) (x20_4 : Bool), v20 = .bool x20_4 ∧ Aside0 (cellaretlaw1_SumZeros.j0 kq a0 a1 x20_4 = some r) ∧ Aside0 (kq ≤ k) ∧ Aside0 (Below w.heap.size w wc))
    case first =>
      have H := HC5.out
      clear HC5
      by_cases c7 : (a0.size : Int) > 500
      · rw [if_pos c7] at H
        have c7b0 : decide (500 < (a0.size : Int)) = true := decide_eq_true c7
        have c7b1 : decide (500 < a0.size) = true := decide_eq_true (by omega)
        clear c7
        (first | rw [c7b0] | (simp only [i64_w, i32_w]; rw [c7b0]) | skip)
        have H' := Aside0.mk H
        clear H
        go_wp2
        go_meet
        case rel => exact ⟨_, (true), (by first | rfl | (simp; done) | (simp [*]; done)), H', ⟨by first | omega | exact Nat.le_refl _⟩, ⟨by repeat (first | (with_reducible first | exact HB.out | apply below_alloc | apply pw_below_drewN | apply below_drew1) | exact HB.out)⟩⟩
      · rw [if_neg c7] at H
        have c7b0 : decide (500 < (a0.size : Int)) = false := decide_eq_false c7
        have c7b1 : decide (500 < a0.size) = false := decide_eq_false (by omega)
        clear c7
        (first | rw [c7b0] | (simp only [i64_w, i32_w]; rw [c7b0]) | skip)
        by_cases c8 : a1 < 1
        · rw [if_pos c8] at H
          have c8b0 : decide (a1 < 1) = true := decide_eq_true c8
          clear c8
          have H' := Aside0.mk H
          clear H
          go_wp2
          go_meet
          case rel => exact ⟨_, (true), (by first | rfl | (simp; done) | (simp [*]; done)), H', ⟨by first | omega | exact Nat.le_refl _⟩, ⟨by repeat (first | (with_reducible first | exact HB.out | apply below_alloc | apply pw_below_drewN | apply below_drew1) | exact HB.out)⟩⟩
        · rw [if_neg c8] at H
          have c8b0 : decide (a1 < 1) = false := decide_eq_false c8
          clear c8
          have H' := Aside0.mk H
          clear H
          go_wp2
          go_meet
          case rel => exact ⟨_, (decide (a1 > 200)), (by first | rfl | (simp; done) | (simp [*]; done)), H', ⟨by first | omega | exact Nat.le_refl _⟩, ⟨by repeat (first | (with_reducible first | exact HB.out | apply below_alloc | apply pw_below_drewN | apply below_drew1) | exact HB.out)⟩⟩
    case rest =>
      clear HC5
      try clear c2
      try clear p2
      try clear c4
      try clear c7
      try clear c7b0
      try clear c7b1
      try clear c8
      try clear c8b0
      obtain ⟨kq, x20_4, rfl, HA, HJ4, HB⟩ := hcut
      cases kq with
      | zero => exact absurd HA.out (by simp [cellaretlaw1_SumZeros.j0])
      | succ kj4 =>
        have H := HA.out
        clear HA
        simp only [cellaretlaw1_SumZeros.j0] at H
        by_cases c9 : x20_4 = true
        · subst c9
          have H1 : (some true) = some r := by rw [if_pos rfl] at H; exact H
          clear H
          have H := H1
          clear H1
          obtain rfl := Option.some.inj H
          go_wp2
          go_ret
          exact ⟨by first | rfl | (simp [errW_none, errW_some] <;> rfl) | (simp [*, errW_none, errW_some] <;> rfl), by repeat (first | (with_reducible first | exact HB.out | apply below_alloc | apply pw_below_drewN | apply below_drew1) | exact HB.out)⟩
        · replace c9 := Bool.eq_false_iff.mpr c9
          subst c9
          have H1 : ((sum_Hash.f kj4 a0).bind fun t188 => (cellaretlaw1_SumZeros.l0 kj4 a0 a1 t188 0)) = some r := by rw [if_neg (show ¬ (false = true) by decide)] at H; exact H
          clear H
          have H := H1
          clear H1
          replace H := Option.bind_eq_some_iff.mp H
          obtain ⟨t188, A100, H⟩ := H
          replace H : (cellaretlaw1_SumZeros.l0 kj4 a0 a1 t188 0) = some r := H
          have A10 := Aside0.mk A100
          clear A100
          have H' := Aside0.mk H
          clear H
          go_wp2_with (first | ((with_reducible refine gate_callee (f := 28) rfl ?_); refine goesL_ (some 22) rfl rfl Try.func28 (by kernel_rfl) rfl #[.string a0] rfl (by (try simp only [List.map_toArray, List.map_cons, List.map_nil]); first | done | rfl | (simp only [List.length_drop, List.length_take]; rfl)) ?_; (with_reducible refine (sum_Hash.calls kj4 a0 t188 _ A10.out).mono ?_); rintro e w' ⟨rfl, ⟨nd, rfl⟩⟩; refine ⟨_, rfl, ?_⟩))
          go_loopg [5, 6] kj4 (fun kq v5 v6 w' => ∃ (x5_2 : Int) (x6_2 : Int), v5 = .int .u64 x5_2 ∧ v6 = .int .i64 x6_2 ∧ Aside0 (cellaretlaw1_SumZeros.l0 kq a0 a1 x5_2 x6_2 = some r) ∧ Aside0 (kq ≤ kj4) ∧ Aside0 (Below w.heap.size w w'))
          case atStart => exact ⟨(t188), (0), (by first | rfl | (simp; done) | (simp [*]; done)), (by first | rfl | (simp; done) | (simp [*]; done)), H', ⟨Nat.le_refl _⟩, ⟨by repeat (first | (with_reducible first | exact HB.out | apply below_alloc | apply pw_below_drewN | apply below_drew1) | exact HB.out)⟩⟩
          case round =>
            clear H'
            try clear c2
            try clear p2
            try clear c4
            try clear c7
            try clear c7b0
            try clear c7b1
            try clear c8
            try clear c8b0
            try clear c9
            try clear p2
            obtain ⟨x5_2, x6_2, rfl, rfl, HA, HK2, HB⟩ := hrel
            cases gk with
            | zero => exact absurd HA.out (by simp [cellaretlaw1_SumZeros.l0])
            | succ k2 =>
              have H := HA.out
              clear HA
              simp only [cellaretlaw1_SumZeros.l0] at H
              by_cases c11 : x6_2 < a1
              · rw [if_pos c11] at H
                have c11b0 : decide (x6_2 < a1) = true := decide_eq_true c11
                clear c11
                have H' := Aside0.mk H
                clear H
                go_wp2
                go_roundg k2
                case measure => have := HJ4.out; have := HK2.out; omega
                case rel => exact ⟨(IntKind.u64.wrap (x5_2 * 1099511628211)), (wrap64 (x6_2 + 1)), (by first | rfl | (simp; done) | (simp [*]; done)), (by first | rfl | (simp; done) | (simp [*]; done)), H', ⟨by have := HJ4.out; have := HK2.out; omega⟩, ⟨by repeat (first | (with_reducible first | exact HB.out | apply below_alloc | apply pw_below_drewN | apply below_drew1) | exact HB.out)⟩⟩
              · rw [if_neg c11] at H
                have c11b0 : decide (x6_2 < a1) = false := decide_eq_false c11
                clear c11
                by_cases c12 : 0 ≤ a1
                · rw [if_pos c12] at H
                  have c12b0 := eq_true c12
                  have c12b1 : decide (0 ≤ a1) = true := decide_eq_true c12
                  clear c12
                  by_cases c13 : (a1 : Int).toNat ≤ 281474976710656
                  · rw [if_pos c13] at H
                    have c13b0 := eq_true c13
                    have c13b1 : decide ((a1 : Int).toNat ≤ 281474976710656) = true := decide_eq_true c13
                    clear c13
                    obtain ⟨y189, hy189⟩ : ∃ y_ : List Int, y_ = (List.replicate (a1 : Int).toNat 0) := ⟨_, rfl⟩
                    replace H : (if a0.size + (strOfNums y189).size ≤ 9223372036854775807 then ((sum_Hash.f k2 (a0 ++ (strOfNums y189))).bind fun t192 => (if t192 = x5_2 then (if (a0 ++ (strOfNums y189)).size ≤ 9223372036854775807 then ((sum_Crc.f k2 (bytesOf (a0 ++ (strOfNums y189)))).bind fun t196 => (if a0.size ≤ 9223372036854775807 then ((sum_Crc.f k2 (bytesOf a0)).bind fun t200 => ((sum_More.f k2 t200 y189).bind fun t201 => (some (t196 == t201)))) else (none))) else (none)) else (some false))) else (none)) = some r := by first | (rw [hy189]; with_reducible exact H) | (have H2_ := (Option.bind_some _ _).symm.trans H; rw [hy189]; with_reducible exact H2_) | (have H2_ := (Option.bind_some _ _).symm.trans H; with_reducible exact H2_) | with_reducible exact H | (rw [hy189]; exact H) | exact H
                    have Ny189 := Aside0.mk hy189
                    clear hy189
                    by_cases c14 : a0.size + (strOfNums y189).size ≤ 9223372036854775807
                    · rw [if_pos c14] at H
                      have c14b0 := eq_true c14
                      have c14b1 : decide (a0.size + (strOfNums y189).size ≤ 9223372036854775807) = true := decide_eq_true c14
                      try have c14b2 : (9223372036854775807 < a0.size + (strOfNums y189).size) = False := eq_false (Nat.not_lt.2 c14)
                      replace H := Option.bind_eq_some_iff.mp H
                      obtain ⟨t192, A150, H⟩ := H
                      replace H : (if t192 = x5_2 then (if (a0 ++ (strOfNums y189)).size ≤ 9223372036854775807 then ((sum_Crc.f k2 (bytesOf (a0 ++ (strOfNums y189)))).bind fun t196 => (if a0.size ≤ 9223372036854775807 then ((sum_Crc.f k2 (bytesOf a0)).bind fun t200 => ((sum_More.f k2 t200 y189).bind fun t201 => (some (t196 == t201)))) else (none))) else (none)) else (some false)) = some r := H
                      have A15 := Aside0.mk A150
                      clear A150
                      by_cases c16 : t192 = x5_2
                      · rw [if_pos c16] at H
                        have c16b0 : (t192 == x5_2) = true := beq_iff_eq.mpr c16
                        have c16b1 : (t192 != x5_2) = false := bne_eq_false_iff_eq.mpr c16
                        clear c16
                        by_cases c17 : (a0 ++ (strOfNums y189)).size ≤ 9223372036854775807
                        · rw [if_pos c17] at H
                          have c17b0 := eq_true c17
                          have c17b1 : decide ((a0 ++ (strOfNums y189)).size ≤ 9223372036854775807) = true := decide_eq_true c17
                          try have c17b2 : (9223372036854775807 < (a0 ++ (strOfNums y189)).size) = False := eq_false (Nat.not_lt.2 c17)
                          obtain ⟨y193, hy193⟩ : ∃ y_ : List Int, y_ = (bytesOf (a0 ++ (strOfNums y189))) := ⟨_, rfl⟩
                          replace H : ((sum_Crc.f k2 y193).bind fun t196 => (if a0.size ≤ 9223372036854775807 then ((sum_Crc.f k2 (bytesOf a0)).bind fun t200 => ((sum_More.f k2 t200 y189).bind fun t201 => (some (t196 == t201)))) else (none))) = some r := by first | (rw [hy193]; with_reducible exact H) | (have H2_ := (Option.bind_some _ _).symm.trans H; rw [hy193]; with_reducible exact H2_) | (have H2_ := (Option.bind_some _ _).symm.trans H; with_reducible exact H2_) | with_reducible exact H | (rw [hy193]; exact H) | exact H
                          have Ny193 := Aside0.mk hy193
                          clear hy193
                          replace H := Option.bind_eq_some_iff.mp H
                          obtain ⟨t196, A180, H⟩ := H
                          replace H : (if a0.size ≤ 9223372036854775807 then ((sum_Crc.f k2 (bytesOf a0)).bind fun t200 => ((sum_More.f k2 t200 y189).bind fun t201 => (some (t196 == t201)))) else (none)) = some r := H
                          have A18 := Aside0.mk A180
                          clear A180
                          by_cases c19 : a0.size ≤ 9223372036854775807
                          · rw [if_pos c19] at H
                            have c19b0 := eq_true c19
                            have c19b1 : decide (a0.size ≤ 9223372036854775807) = true := decide_eq_true c19
                            try have c19b2 : (9223372036854775807 < a0.size) = False := eq_false (Nat.not_lt.2 c19)
                            clear c19
                            obtain ⟨y197, hy197⟩ : ∃ y_ : List Int, y_ = (bytesOf a0) := ⟨_, rfl⟩
                            replace H : ((sum_Crc.f k2 y197).bind fun t200 => ((sum_More.f k2 t200 y189).bind fun t201 => (some (t196 == t201)))) = some r := by first | (rw [hy197]; with_reducible exact H) | (have H2_ := (Option.bind_some _ _).symm.trans H; rw [hy197]; with_reducible exact H2_) | (have H2_ := (Option.bind_some _ _).symm.trans H; with_reducible exact H2_) | with_reducible exact H | (rw [hy197]; exact H) | exact H
                            have Ny197 := Aside0.mk hy197
                            clear hy197
                            replace H := Option.bind_eq_some_iff.mp H
                            obtain ⟨t200, A200, H⟩ := H
                            replace H : ((sum_More.f k2 t200 y189).bind fun t201 => (some (t196 == t201))) = some r := H
                            have A20 := Aside0.mk A200
                            clear A200
                            replace H := Option.bind_eq_some_iff.mp H
                            obtain ⟨t201, A210, H⟩ := H
                            replace H : (some (t196 == t201)) = some r := H
                            have A21 := Aside0.mk A210
                            clear A210
                            obtain rfl := Option.some.inj H
                            go_wp2_with (first | ((with_reducible refine gate_dst (N := 31) rfl ?_); refine Kd.R_make (Kd.int .u8) _ 5 rfl (N := 31) rfl 28 _ _ rfl a1 rfl rfl Try.underlying28 (.int .u8 0) 1 info5 rfl (by decide) (by omega) 0 (ok := fun _ => True) (okp := fun _ => True) rfl (fun _ hk => hk) trivial (of_decide_eq_true (by first | (with_reducible assumption) | assumption)) (Nat.le_trans (Nat.mul_le_mul_right _ (of_decide_eq_true (by first | (with_reducible assumption) | assumption) : a1.toNat ≤ 281474976710656)) (by omega)) (Below.refl _ _) (Nat.le_refl _) ?_; intro v190 w22 ho23 hb hg_ hnew_; clear hg_ hnew_; (first | rw [← Ny189.out] at ho23 | (simp only [Int.reduceToNat] at ho23; rw [← Ny189.out] at ho23)); have n0_ := Aside0.mk (Kd.R_lower ho23 (below_size (by repeat (first | (with_reducible first | exact HB.out | apply below_alloc | apply pw_below_drewN | apply below_drew1) | exact HB.out)))); have n1_ := Aside0.mk (below_step (by repeat (first | (with_reducible first | exact HB.out | apply below_alloc | apply pw_below_drewN | apply below_drew1) | exact HB.out)) hb); clear HB; have HO191 := n0_; have HB := n1_; clear n0_ n1_; clear hb ho23; have hcv24 := own_string (P := Try.prog) Try.underlying28 Try.underlying5 Try.underlying9 (Kd.own_of_R HO191.out)) | ((with_reducible refine gate_callee (f := 28) rfl ?_); refine goesL_ (some 36) rfl rfl Try.func28 (by kernel_rfl) rfl #[.string (a0 ++ (strOfNums y189))] rfl (by (try simp only [List.map_toArray, List.map_cons, List.map_nil]); first | done | rfl | (simp only [List.length_drop, List.length_take]; rfl)) ?_; (with_reducible refine (sum_Hash.calls k2 (a0 ++ (strOfNums y189)) t192 _ A15.out).mono ?_); rintro e w' ⟨rfl, ⟨nd, rfl⟩⟩; refine ⟨_, rfl, ?_⟩; have hcv25 := own_string (P := Try.prog) Try.underlying28 Try.underlying5 Try.underlying9 (Kd.own_of_R HO191.out); have hcv26 := fun m_ => own_string (P := Try.prog) Try.underlying28 Try.underlying5 Try.underlying9 (Kd.own_of_R (Kd.R_drewN HO191.out m_))) | ((with_reducible refine gate_dst (N := 44) rfl ?_); (try (refine gate_guard (by rfl) ?_; dsimp only)); refine conv_gate (N := 44) rfl rfl rfl (a0 ++ (strOfNums y189)) rfl Try.underlying9 Try.underlying28 Try.underlying5 (of_decide_eq_true (by first | (with_reducible assumption) | assumption)) (Below.refl _ _) (Nat.le_refl _) ?_; intro v194 w27 ho28 hb hg_; clear hg_; rw [← Ny193.out] at ho28; have n0_ := Aside0.mk (Kd.R_below (by (with_reducible repeat (first | apply Kd.R_alloc | apply Kd.R_drewN | apply Kd.R_drew)); exact HO191.out) hb); have n1_ := Aside0.mk (Kd.V_lower (Kd.V_mono (ok' := fun k_ => some k_ ≠ (v190 : Value).ownBlock) ho28 (fun k_ hk_ => (Kd.fresh' (Kd.R_lt (by (with_reducible repeat (first | apply Kd.R_alloc | apply Kd.R_drewN | apply Kd.R_drew)); exact HO191.out)) k_ hk_))) (below_size (by repeat (first | (with_reducible first | exact HB.out | apply below_alloc | apply pw_below_drewN | apply below_drew1) | exact HB.out)))); have n2_ := Aside0.mk (below_step (by repeat (first | (with_reducible first | exact HB.out | apply below_alloc | apply pw_below_drewN | apply below_drew1) | exact HB.out)) hb); clear HO191; clear HB; have HO191 := n0_; have HO195 := n1_; have HB := n2_; clear n0_ n1_ n2_; clear hb ho28; obtain ⟨Ao29, co29, eo29⟩ := Kd.V_slice HO195.out; subst eo29) | (go_at_call 22; (with_reducible refine (sum_Crc.calls k2 _ _ y193 t196 _ ?side1 ?side2 A18.out).mono ?_); (case side1 => repeat (first | exact (Kd.V_reads' HO195.out).2.2 | (with_reducible refine Kd.C_alloc ?_ _) | (with_reducible refine Kd.C_drewN ?_ _) | (with_reducible refine Kd.C_drew ?_))); (case side2 => exact (Kd.V_reads' HO195.out).2.1); rintro e w' ⟨rfl, ⟨nd, rfl⟩⟩) | ((with_reducible refine gate_dst (N := 47) rfl ?_); (try (refine gate_guard (by rfl) ?_; dsimp only)); refine conv_gate (N := 47) rfl rfl rfl a0 rfl Try.underlying9 Try.underlying28 Try.underlying5 (of_decide_eq_true (by first | (with_reducible assumption) | assumption)) (Below.refl _ _) (Nat.le_refl _) ?_; intro v198 w30 ho31 hb hg_; clear hg_; rw [← Ny197.out] at ho31; have n0_ := Aside0.mk (Kd.R_below (by (with_reducible repeat (first | apply Kd.R_alloc | apply Kd.R_drewN | apply Kd.R_drew)); exact HO191.out) hb); have n1_ := Aside0.mk (Kd.V_below (by (with_reducible repeat (first | apply Kd.V_alloc | apply Kd.V_drewN | apply Kd.V_drew)); exact HO195.out) hb); have n2_ := Aside0.mk (Kd.V_lower (Kd.V_mono (ok' := fun k_ => some k_ ≠ (v190 : Value).ownBlock) ho31 (fun k_ hk_ => (Kd.fresh' (Kd.R_lt (by (with_reducible repeat (first | apply Kd.R_alloc | apply Kd.R_drewN | apply Kd.R_drew)); exact HO191.out)) k_ hk_))) (below_size (by repeat (first | (with_reducible first | exact HB.out | apply below_alloc | apply pw_below_drewN | apply below_drew1) | exact HB.out)))); have n3_ := Aside0.mk (below_step (by repeat (first | (with_reducible first | exact HB.out | apply below_alloc | apply pw_below_drewN | apply below_drew1) | exact HB.out)) hb); clear HO191; clear HO195; clear HB; have HO191 := n0_; have HO195 := n1_; have HO199 := n2_; have HB := n3_; clear n0_ n1_ n2_ n3_; clear hb ho31; obtain ⟨Ao32, co32, eo32⟩ := Kd.V_slice HO199.out; subst eo32) | (go_at_call 22; (with_reducible refine (sum_Crc.calls k2 _ _ y197 t200 _ ?side1 ?side2 A20.out).mono ?_); (case side1 => repeat (first | exact (Kd.V_reads' HO199.out).2.2 | (with_reducible refine Kd.C_alloc ?_ _) | (with_reducible refine Kd.C_drewN ?_ _) | (with_reducible refine Kd.C_drew ?_))); (case side2 => exact (Kd.V_reads' HO199.out).2.1); rintro e w' ⟨rfl, ⟨nd, rfl⟩⟩; obtain ⟨Ao33, co33, eo33⟩ := Kd.R_slice HO191.out; subst eo33) | (go_at_call 23; (with_reducible refine (sum_More.calls k2 t200 _ _ y189 t201 _ ?side1 ?side2 A21.out).mono ?_); (case side1 => repeat (first | exact (Kd.R_reads' HO191.out).2.2 | (with_reducible refine Kd.C_alloc ?_ _) | (with_reducible refine Kd.C_drewN ?_ _) | (with_reducible refine Kd.C_drew ?_))); (case side2 => exact (Kd.R_reads' HO191.out).2.1); rintro e w' ⟨rfl, ⟨nd, rfl⟩⟩))
                            go_ret
                            exact ⟨by first | rfl | (simp [errW_none, errW_some] <;> rfl) | (simp [*, errW_none, errW_some] <;> rfl), by repeat (first | (with_reducible first | exact HB.out | apply below_alloc | apply pw_below_drewN | apply below_drew1) | exact HB.out)⟩
                          · rw [if_neg c19] at H
                            exact absurd H (by simp)
                        · rw [if_neg c17] at H
                          exact absurd H (by simp)
                      · rw [if_neg c16] at H
                        have c16b0 : (t192 == x5_2) = false := beq_eq_false_iff_ne.mpr c16
                        have c16b1 : (t192 != x5_2) = true := bne_iff_ne.mpr c16
                        obtain rfl := Option.some.inj H
                        go_wp2_with (first | ((with_reducible refine gate_dst (N := 31) rfl ?_); refine Kd.R_make (Kd.int .u8) _ 5 rfl (N := 31) rfl 28 _ _ rfl a1 rfl rfl Try.underlying28 (.int .u8 0) 1 info5 rfl (by decide) (by omega) 0 (ok := fun _ => True) (okp := fun _ => True) rfl (fun _ hk => hk) trivial (of_decide_eq_true (by first | (with_reducible assumption) | assumption)) (Nat.le_trans (Nat.mul_le_mul_right _ (of_decide_eq_true (by first | (with_reducible assumption) | assumption) : a1.toNat ≤ 281474976710656)) (by omega)) (Below.refl _ _) (Nat.le_refl _) ?_; intro v190 w34 ho35 hb hg_ hnew_; clear hg_ hnew_; (first | rw [← Ny189.out] at ho35 | (simp only [Int.reduceToNat] at ho35; rw [← Ny189.out] at ho35)); have n0_ := Aside0.mk (Kd.R_lower ho35 (below_size (by repeat (first | (with_reducible first | exact HB.out | apply below_alloc | apply pw_below_drewN | apply below_drew1) | exact HB.out)))); have n1_ := Aside0.mk (below_step (by repeat (first | (with_reducible first | exact HB.out | apply below_alloc | apply pw_below_drewN | apply below_drew1) | exact HB.out)) hb); clear HB; have HO191 := n0_; have HB := n1_; clear n0_ n1_; clear hb ho35; have hcv36 := own_string (P := Try.prog) Try.underlying28 Try.underlying5 Try.underlying9 (Kd.own_of_R HO191.out)) | ((with_reducible refine gate_callee (f := 28) rfl ?_); refine goesL_ (some 36) rfl rfl Try.func28 (by kernel_rfl) rfl #[.string (a0 ++ (strOfNums y189))] rfl (by (try simp only [List.map_toArray, List.map_cons, List.map_nil]); first | done | rfl | (simp only [List.length_drop, List.length_take]; rfl)) ?_; (with_reducible refine (sum_Hash.calls k2 (a0 ++ (strOfNums y189)) t192 _ A15.out).mono ?_); rintro e w' ⟨rfl, ⟨nd, rfl⟩⟩; refine ⟨_, rfl, ?_⟩))
                        go_ret
                        exact ⟨by first | rfl | (simp [errW_none, errW_some] <;> rfl) | (simp [*, errW_none, errW_some] <;> rfl), by repeat (first | (with_reducible first | exact HB.out | apply below_alloc | apply pw_below_drewN | apply below_drew1) | exact HB.out)⟩
                    · rw [if_neg c14] at H
                      exact absurd H (by simp)
                  · rw [if_neg c13] at H
                    exact absurd H (by simp)
                · rw [if_neg c12] at H
                  exact absurd H (by simp)
  · replace c4 := Bool.eq_false_iff.mpr c4
    subst c4
    have H1 : (some false) = some r := by rw [if_neg (show ¬ (false = true) by decide)] at H; exact H
    clear H
    have H := H1
    clear H1
    obtain rfl := Option.some.inj H
    go_enter Try.func8, Try.ntmps8
    go_wp2_with (first | ((with_reducible refine gate_callee (f := 21) rfl ?_); refine goesL_ (some 8) rfl rfl Try.func21 (by kernel_rfl) rfl #[] rfl (by (try simp only [List.map_toArray, List.map_cons, List.map_nil]); first | done | rfl | (simp only [List.length_drop, List.length_take]; rfl)) ?_; (with_reducible refine (cellaretlaw1_awake.calls k  false _ A3.out).mono ?_); rintro e w37 ⟨rfl, hb⟩; refine ⟨_, rfl, ?_⟩; have n0_ := Aside0.mk (below_step (by repeat (first | (with_reducible first | exact HB.out | apply below_alloc | apply pw_below_drewN | apply below_drew1) | exact HB.out)) hb); clear HB; have HB := n0_; clear n0_; (try clear hb); (try clear hb2); (try clear hk); (try clear hi)))
    go_ret
    exact ⟨by first | rfl | (simp [errW_none, errW_some] <;> rfl) | (simp [*, errW_none, errW_some] <;> rfl), by repeat (first | (with_reducible first | exact HB.out | apply below_alloc | apply pw_below_drewN | apply below_drew1) | exact HB.out)⟩

/-- THE ONE PURE STATEMENT of cellaretlaw1_SumZeros: yours. -/
def cellaretlaw1_SumZeros.Pure : Prop := ∀ (a0 : ByteArray) (a1 : Int), a0.size ≤ 140737488351232 → (Lit.int .i64 a1).wf = true → ∃ k, cellaretlaw1_SumZeros.f k a0 a1 = some true
theorem cellaretlaw1_SumZeros.walk (P : cellaretlaw1_SumZeros.Pure) (a0 : ByteArray) (a1 : Int) (w : World) (w0 : a0.size ≤ 140737488351232) (w1 : (Lit.int .i64 a1).wf = true) :
    Calls Try.prog 8 #[.string a0, .int .i64 a1] w fun e w' => e = .returned (.bool true) ∧ Below w.heap.size w w' := by
  obtain ⟨k, h⟩ := P a0 a1 w0 w1
  refine (cellaretlaw1_SumZeros.calls k a0 a1 true w h).mono ?_
  rintro e w' ⟨rfl, hd⟩
  exact ⟨rfl, hd⟩

end Go.Proofs.Ytefalfheeofhhaa.QS
