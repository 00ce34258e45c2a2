/- Laid by a program of this session: what the Go functions answer, as Lean functions, and the walks that prove it; no condition beyond what each statement names. -/
import Derived.Test.YtefalfheeofhhaaQRx0
import Derived.Test.YtefalfheeofhhaaQRx1
import Derived.Test.YtefalfheeofhhaaQRx4
import Derived.Test.YtefalfheeofhhaaQRx6
import Derived.Test.YtefalfheeofhhaaQRx8
import Derived.Test.YtefalfheeofhhaaQRx9
import Derived.Test.YtefalfheeofhhaaQRx10
import Derived.Test.YtefalfheeofhhaaQRx11
import Derived.Test.YtefalfheeofhhaaQRx12
namespace Go.Proofs.Ytefalfheeofhhaa.QR
open Go.RowKit Go.Proofs.YtefalfheeofhhaaW.PrintWords Go.Proofs.YtefalfheeofhhaaW.PrintLast Go.Proofs.YtefalfheeofhhaaW.PrintMore
attribute [local go_sem] max2_int min2_int max_two min_two max_three min_three max_four min_four   -- for this text's walks alone
set_option linter.unusedVariables false
set_option linter.unusedSimpArgs false

attribute [local go_sem high] eqA54
/-! ### cellaretlaw4_awake: function 38 -/
def cellaretlaw4_awake.f (k : Nat)  : Option (Bool) := (cellaretlaw4_one.f).bind fun bt196 => ((rec_Put.f k bt196.1 bt196.2.1 bt196.2.2.1 bt196.2.2.2.1 bt196.2.2.2.2).bind fun bt201 => ((rec_Take.f k bt201.1).bind fun bt205 => ((cellaretlaw4_one.f).bind fun bt213 => ((cellaretlaw4_one.f).bind fun bt218 => ((rec_Lay.f k (([(⟨bt213.1, bt213.2.1, bt213.2.2.1, bt213.2.2.2.1, bt213.2.2.2.2⟩ : S54), (⟨bt218.1, bt218.2.1, bt218.2.2.1, bt218.2.2.2.1, bt218.2.2.2.2⟩ : S54)] : List (S54))) 80).bind fun bt226 => ((rec_List.f k bt226.1).bind fun bt230 => (if bt201.2 = 0 then (if (bt201.1.length : Int) = 34 then (if bt205.2.2.2.2.2.2 = 0 then (if bt205.2.2.2.2.2.1 = 34 then ((cellaretlaw4_one.f).bind fun bt234 => (if (bt205.1.toList == bt234.1.toList && (bt205.2.1.toList == bt234.2.1.toList && (bt205.2.2.1 == bt234.2.2.1 && (bt205.2.2.2.1 == bt234.2.2.2.1 && (bt205.2.2.2.2.1 == bt234.2.2.2.2))))) = true then (if bt226.2 = 0 then (if (bt226.1.length : Int) = 80 then (if bt230.2 = 0 then (if (bt230.1.length : Int) = 2 then (if 1 < (bt230.1.length : Int) then ((cellaretlaw4_one.f).bind fun bt240 => (if ((((rd_T54 bt230.1 1).f0).toList) == bt240.1.toList && ((((rd_T54 bt230.1 1).f1).toList) == bt240.2.1.toList && (((rd_T54 bt230.1 1).f2) == bt240.2.2.1 && (((rd_T54 bt230.1 1).f3) == bt240.2.2.2.1 && (((rd_T54 bt230.1 1).f4) == bt240.2.2.2.2))))) = true then ((cellaretlaw4_one.f).bind fun bt245 => ((rec_Good.f bt245.1 bt245.2.1 bt245.2.2.1 bt245.2.2.2.1 bt245.2.2.2.2).bind fun t250 => (if t250 = true then ((cellaretlaw4_one.f).bind fun bt251 => ((rec_Size.f bt251.1 bt251.2.1 bt251.2.2.1 bt251.2.2.2.1 bt251.2.2.2.2).bind fun t256 => (some (t256 == 34)))) else (none)))) else (none))) else (none)) else (none)) else (none)) else (none)) else (none)) else (none))) else (none)) else (none)) else (none)) else (none))))))))
theorem cellaretlaw4_awake.mono : ∀ k, LeO (cellaretlaw4_awake.f k ) (cellaretlaw4_awake.f (k + 1) ) := by
 intro  k
 unfold cellaretlaw4_awake.f
 repeat' first
   | (with_reducible exact rec_Lay.mono _ _ _)
   | (with_reducible exact rec_List.mono _ _)
   | (with_reducible exact rec_Put.mono _ _ _ _ _ _)
   | (with_reducible exact rec_Take.mono _ _)
   | (with_reducible exact LeO.refl _)
   | (with_reducible exact LeO.none _)
   | (with_reducible refine LeO.ite ?_ ?_)
   | (with_reducible refine LeO.bind ?_ (fun _ => ?_))
   | exact rec_Lay.mono _ _ _
   | exact rec_List.mono _ _
   | exact rec_Put.mono _ _ _ _ _ _
   | exact rec_Take.mono _ _
   | exact LeO.none _
   | refine LeO.ite ?_ ?_
   | refine LeO.bind ?_ (fun _ => ?_)
def cellaretlaw4_awake.T5 : Bool × List (List Nat × List Nat) := (true, [([], []), ([0], [0]), ([1], [1]), ([2], [2]), ([3, 2], [2, 3]), ([4, 2], [2, 4]), ([2, 5], [2, 5]), ([6, 2], [6]), ([7], [7]), ([8, 7], [7, 8]), ([7, 9], [7, 9]), ([10, 7], [10]), ([11], [11]), ([12, 11], [11, 12]), ([11, 13], [11, 13]), ([14, 11], [14]), ([15], [15]), ([15, 15], [15]), ([16, 17, 15], [15, 16, 17]), ([15, 18], [15, 18]), ([19, 17], [19]), ([20], [20]), ([21, 20], [20, 21]), ([20, 22], [20, 22]), ([23, 20], [23]), ([24], [24]), ([25, 24], [24, 25]), ([26, 24], [24, 26]), ([24, 27], [24, 27]), ([28, 24], [28]), ([29], [29]), ([30, 29], [29, 30]), ([29, 31], [29, 31]), ([32, 29], [32]), ([33], [33]), ([34, 33], [33, 34]), ([35, 33], [33, 35]), ([33, 36], [33, 36]), ([37, 33], [37]), ([38], [38]), ([39, 38], [38, 39]), ([40, 38], [38, 40]), ([38, 38], [38]), ([41, 42, 38], [38, 41, 42]), ([38, 43], [38, 43]), ([44, 42], [44]), ([45, 45], [45]), ([46, 46, 45], [45, 46]), ([45, 47], [45, 47]), ([48, 47], [48]), ([49, 49], [49]), ([50, 50, 49], [49, 50]), ([51, 49], [49, 51]), ([49, 52], [49, 52]), ([53, 51, 0, 1, 2, 3, 4, 5, 6, 7, 8, 9, 10, 11, 12, 13, 14, 15, 16, 17, 18, 19, 20, 21, 22, 23, 24, 25, 26, 27, 28, 29, 30, 31, 32, 33, 34, 35, 36, 37, 38, 39, 40, 41, 42, 43, 44, 45, 46, 47, 48, 49, 50, 51, 52, 53], [53])])
def cellaretlaw4_awake.B5 : List Nat := [0, 1, 3, 7, 15, 31, 63, 127, 255, 511, 1023, 2047, 4095, 8191, 16383, 32767, 65535, 65535, 262143, 524287, 1048575, 2097151, 4194303, 8388607, 16777215, 33554431, 67108863, 134217727, 268435455, 536870911, 1073741823, 2147483647, 4294967295, 8589934591, 17179869183, 34359738367, 68719476735, 137438953471, 274877906943, 549755813887, 1099511627775, 2199023255551, 549755813887, 8796093022207, 17592186044415, 35184372088831, 70368744177663, 140737488355327, 281474976710655, 562949953421311, 1125899906842623, 2251799813685247, 4503599627370495, 9007199254740991, 18014398509481983]
theorem cellaretlaw4_awake.tab5 : rtab .any (opsOf Try.f38 5) = cellaretlaw4_awake.T5 := by kernel_rfl
theorem cellaretlaw4_awake.bits5 : waitsOk cellaretlaw4_awake.T5.2 cellaretlaw4_awake.B5 = true := by kernel_rfl
set_option maxHeartbeats 8000000 in
set_option maxRecDepth 100000 in
theorem cellaretlaw4_awake.calls (k : Nat)  (r : Bool) (w : World) (h : cellaretlaw4_awake.f k  = some r) :
  Calls Try.prog 38 #[] w fun e w' => e = .returned (.bool r) ∧ Below w.heap.size w w' := by
 have hu54 := Try.underlying54
 have HB := Aside0.mk (Below.refl w.heap.size w)
 have H : ((cellaretlaw4_one.f).bind fun bt196 => ((rec_Put.f k bt196.1 bt196.2.1 bt196.2.2.1 bt196.2.2.2.1 bt196.2.2.2.2).bind fun bt201 => ((rec_Take.f k bt201.1).bind fun bt205 => ((cellaretlaw4_one.f).bind fun bt213 => ((cellaretlaw4_one.f).bind fun bt218 => ((rec_Lay.f k (([(⟨bt213.1, bt213.2.1, bt213.2.2.1, bt213.2.2.2.1, bt213.2.2.2.2⟩ : S54), (⟨bt218.1, bt218.2.1, bt218.2.2.1, bt218.2.2.2.1, bt218.2.2.2.2⟩ : S54)] : List (S54))) 80).bind fun bt226 => ((rec_List.f k bt226.1).bind fun bt230 => (if bt201.2 = 0 then (if (bt201.1.length : Int) = 34 then (if bt205.2.2.2.2.2.2 = 0 then (if bt205.2.2.2.2.2.1 = 34 then ((cellaretlaw4_one.f).bind fun bt234 => (if (bt205.1.toList == bt234.1.toList && (bt205.2.1.toList == bt234.2.1.toList && (bt205.2.2.1 == bt234.2.2.1 && (bt205.2.2.2.1 == bt234.2.2.2.1 && (bt205.2.2.2.2.1 == bt234.2.2.2.2))))) = true then (if bt226.2 = 0 then (if (bt226.1.length : Int) = 80 then (if bt230.2 = 0 then (if (bt230.1.length : Int) = 2 then (if 1 < (bt230.1.length : Int) then ((cellaretlaw4_one.f).bind fun bt240 => (if ((((rd_T54 bt230.1 1).f0).toList) == bt240.1.toList && ((((rd_T54 bt230.1 1).f1).toList) == bt240.2.1.toList && (((rd_T54 bt230.1 1).f2) == bt240.2.2.1 && (((rd_T54 bt230.1 1).f3) == bt240.2.2.2.1 && (((rd_T54 bt230.1 1).f4) == bt240.2.2.2.2))))) = true then ((cellaretlaw4_one.f).bind fun bt245 => ((rec_Good.f bt245.1 bt245.2.1 bt245.2.2.1 bt245.2.2.2.1 bt245.2.2.2.2).bind fun t250 => (if t250 = true then ((cellaretlaw4_one.f).bind fun bt251 => ((rec_Size.f bt251.1 bt251.2.1 bt251.2.2.1 bt251.2.2.2.1 bt251.2.2.2.2).bind fun t256 => (some (t256 == 34)))) else (none)))) else (none))) else (none)) else (none)) else (none)) else (none)) else (none)) else (none))) else (none)) else (none)) else (none)) else (none))))))))) = some r := h
 clear h
 replace H := Option.bind_eq_some_iff.mp H
 obtain ⟨⟨t196, t197, t198, t199, t200⟩, A10, H⟩ := H
 replace H : ((rec_Put.f k t196 t197 t198 t199 t200).bind fun bt201 => ((rec_Take.f k bt201.1).bind fun bt205 => ((cellaretlaw4_one.f).bind fun bt213 => ((cellaretlaw4_one.f).bind fun bt218 => ((rec_Lay.f k (([(⟨bt213.1, bt213.2.1, bt213.2.2.1, bt213.2.2.2.1, bt213.2.2.2.2⟩ : S54), (⟨bt218.1, bt218.2.1, bt218.2.2.1, bt218.2.2.2.1, bt218.2.2.2.2⟩ : S54)] : List (S54))) 80).bind fun bt226 => ((rec_List.f k bt226.1).bind fun bt230 => (if bt201.2 = 0 then (if (bt201.1.length : Int) = 34 then (if bt205.2.2.2.2.2.2 = 0 then (if bt205.2.2.2.2.2.1 = 34 then ((cellaretlaw4_one.f).bind fun bt234 => (if (bt205.1.toList == bt234.1.toList && (bt205.2.1.toList == bt234.2.1.toList && (bt205.2.2.1 == bt234.2.2.1 && (bt205.2.2.2.1 == bt234.2.2.2.1 && (bt205.2.2.2.2.1 == bt234.2.2.2.2))))) = true then (if bt226.2 = 0 then (if (bt226.1.length : Int) = 80 then (if bt230.2 = 0 then (if (bt230.1.length : Int) = 2 then (if 1 < (bt230.1.length : Int) then ((cellaretlaw4_one.f).bind fun bt240 => (if ((((rd_T54 bt230.1 1).f0).toList) == bt240.1.toList && ((((rd_T54 bt230.1 1).f1).toList) == bt240.2.1.toList && (((rd_T54 bt230.1 1).f2) == bt240.2.2.1 && (((rd_T54 bt230.1 1).f3) == bt240.2.2.2.1 && (((rd_T54 bt230.1 1).f4) == bt240.2.2.2.2))))) = true then ((cellaretlaw4_one.f).bind fun bt245 => ((rec_Good.f bt245.1 bt245.2.1 bt245.2.2.1 bt245.2.2.2.1 bt245.2.2.2.2).bind fun t250 => (if t250 = true then ((cellaretlaw4_one.f).bind fun bt251 => ((rec_Size.f bt251.1 bt251.2.1 bt251.2.2.1 bt251.2.2.2.1 bt251.2.2.2.2).bind fun t256 => (some (t256 == 34)))) else (none)))) else (none))) else (none)) else (none)) else (none)) else (none)) else (none)) else (none))) else (none)) else (none)) else (none)) else (none)))))))) = some r := H
 have A1 := Aside0.mk A10
 clear A10
 replace H := Option.bind_eq_some_iff.mp H
 obtain ⟨⟨t201, t204⟩, A20, H⟩ := H
 replace H : ((rec_Take.f k t201).bind fun bt205 => ((cellaretlaw4_one.f).bind fun bt213 => ((cellaretlaw4_one.f).bind fun bt218 => ((rec_Lay.f k (([(⟨bt213.1, bt213.2.1, bt213.2.2.1, bt213.2.2.2.1, bt213.2.2.2.2⟩ : S54), (⟨bt218.1, bt218.2.1, bt218.2.2.1, bt218.2.2.2.1, bt218.2.2.2.2⟩ : S54)] : List (S54))) 80).bind fun bt226 => ((rec_List.f k bt226.1).bind fun bt230 => (if t204 = 0 then (if (t201.length : Int) = 34 then (if bt205.2.2.2.2.2.2 = 0 then (if bt205.2.2.2.2.2.1 = 34 then ((cellaretlaw4_one.f).bind fun bt234 => (if (bt205.1.toList == bt234.1.toList && (bt205.2.1.toList == bt234.2.1.toList && (bt205.2.2.1 == bt234.2.2.1 && (bt205.2.2.2.1 == bt234.2.2.2.1 && (bt205.2.2.2.2.1 == bt234.2.2.2.2))))) = true then (if bt226.2 = 0 then (if (bt226.1.length : Int) = 80 then (if bt230.2 = 0 then (if (bt230.1.length : Int) = 2 then (if 1 < (bt230.1.length : Int) then ((cellaretlaw4_one.f).bind fun bt240 => (if ((((rd_T54 bt230.1 1).f0).toList) == bt240.1.toList && ((((rd_T54 bt230.1 1).f1).toList) == bt240.2.1.toList && (((rd_T54 bt230.1 1).f2) == bt240.2.2.1 && (((rd_T54 bt230.1 1).f3) == bt240.2.2.2.1 && (((rd_T54 bt230.1 1).f4) == bt240.2.2.2.2))))) = true then ((cellaretlaw4_one.f).bind fun bt245 => ((rec_Good.f bt245.1 bt245.2.1 bt245.2.2.1 bt245.2.2.2.1 bt245.2.2.2.2).bind fun t250 => (if t250 = true then ((cellaretlaw4_one.f).bind fun bt251 => ((rec_Size.f bt251.1 bt251.2.1 bt251.2.2.1 bt251.2.2.2.1 bt251.2.2.2.2).bind fun t256 => (some (t256 == 34)))) else (none)))) else (none))) else (none)) else (none)) else (none)) else (none)) else (none)) else (none))) else (none)) else (none)) else (none)) else (none))))))) = some r := H
 have A2 := Aside0.mk A20
 clear A20
 replace H := Option.bind_eq_some_iff.mp H
 obtain ⟨⟨t205, t206, t207, t208, t209, t210, t211⟩, A30, H⟩ := H
 replace H : ((cellaretlaw4_one.f).bind fun bt213 => ((cellaretlaw4_one.f).bind fun bt218 => ((rec_Lay.f k (([(⟨bt213.1, bt213.2.1, bt213.2.2.1, bt213.2.2.2.1, bt213.2.2.2.2⟩ : S54), (⟨bt218.1, bt218.2.1, bt218.2.2.1, bt218.2.2.2.1, bt218.2.2.2.2⟩ : S54)] : List (S54))) 80).bind fun bt226 => ((rec_List.f k bt226.1).bind fun bt230 => (if t204 = 0 then (if (t201.length : Int) = 34 then (if t211 = 0 then (if t210 = 34 then ((cellaretlaw4_one.f).bind fun bt234 => (if (t205.toList == bt234.1.toList && (t206.toList == bt234.2.1.toList && (t207 == bt234.2.2.1 && (t208 == bt234.2.2.2.1 && (t209 == bt234.2.2.2.2))))) = true then (if bt226.2 = 0 then (if (bt226.1.length : Int) = 80 then (if bt230.2 = 0 then (if (bt230.1.length : Int) = 2 then (if 1 < (bt230.1.length : Int) then ((cellaretlaw4_one.f).bind fun bt240 => (if ((((rd_T54 bt230.1 1).f0).toList) == bt240.1.toList && ((((rd_T54 bt230.1 1).f1).toList) == bt240.2.1.toList && (((rd_T54 bt230.1 1).f2) == bt240.2.2.1 && (((rd_T54 bt230.1 1).f3) == bt240.2.2.2.1 && (((rd_T54 bt230.1 1).f4) == bt240.2.2.2.2))))) = true then ((cellaretlaw4_one.f).bind fun bt245 => ((rec_Good.f bt245.1 bt245.2.1 bt245.2.2.1 bt245.2.2.2.1 bt245.2.2.2.2).bind fun t250 => (if t250 = true then ((cellaretlaw4_one.f).bind fun bt251 => ((rec_Size.f bt251.1 bt251.2.1 bt251.2.2.1 bt251.2.2.2.1 bt251.2.2.2.2).bind fun t256 => (some (t256 == 34)))) else (none)))) else (none))) else (none)) else (none)) else (none)) else (none)) else (none)) else (none))) else (none)) else (none)) else (none)) else (none)))))) = some r := H
 have A3 := Aside0.mk A30
 clear A30
 replace H := Option.bind_eq_some_iff.mp H
 obtain ⟨⟨t213, t214, t215, t216, t217⟩, A40, H⟩ := H
 replace H : ((cellaretlaw4_one.f).bind fun bt218 => ((rec_Lay.f k (([(⟨t213, t214, t215, t216, t217⟩ : S54), (⟨bt218.1, bt218.2.1, bt218.2.2.1, bt218.2.2.2.1, bt218.2.2.2.2⟩ : S54)] : List (S54))) 80).bind fun bt226 => ((rec_List.f k bt226.1).bind fun bt230 => (if t204 = 0 then (if (t201.length : Int) = 34 then (if t211 = 0 then (if t210 = 34 then ((cellaretlaw4_one.f).bind fun bt234 => (if (t205.toList == bt234.1.toList && (t206.toList == bt234.2.1.toList && (t207 == bt234.2.2.1 && (t208 == bt234.2.2.2.1 && (t209 == bt234.2.2.2.2))))) = true then (if bt226.2 = 0 then (if (bt226.1.length : Int) = 80 then (if bt230.2 = 0 then (if (bt230.1.length : Int) = 2 then (if 1 < (bt230.1.length : Int) then ((cellaretlaw4_one.f).bind fun bt240 => (if ((((rd_T54 bt230.1 1).f0).toList) == bt240.1.toList && ((((rd_T54 bt230.1 1).f1).toList) == bt240.2.1.toList && (((rd_T54 bt230.1 1).f2) == bt240.2.2.1 && (((rd_T54 bt230.1 1).f3) == bt240.2.2.2.1 && (((rd_T54 bt230.1 1).f4) == bt240.2.2.2.2))))) = true then ((cellaretlaw4_one.f).bind fun bt245 => ((rec_Good.f bt245.1 bt245.2.1 bt245.2.2.1 bt245.2.2.2.1 bt245.2.2.2.2).bind fun t250 => (if t250 = true then ((cellaretlaw4_one.f).bind fun bt251 => ((rec_Size.f bt251.1 bt251.2.1 bt251.2.2.1 bt251.2.2.2.1 bt251.2.2.2.2).bind fun t256 => (some (t256 == 34)))) else (none)))) else (none))) else (none)) else (none)) else (none)) else (none)) else (none)) else (none))) else (none)) else (none)) else (none)) else (none))))) = some r := H
 have A4 := Aside0.mk A40
 clear A40
 replace H := Option.bind_eq_some_iff.mp H
 obtain ⟨⟨t218, t219, t220, t221, t222⟩, A50, H⟩ := H
 replace H : ((rec_Lay.f k (([(⟨t213, t214, t215, t216, t217⟩ : S54), (⟨t218, t219, t220, t221, t222⟩ : S54)] : List (S54))) 80).bind fun bt226 => ((rec_List.f k bt226.1).bind fun bt230 => (if t204 = 0 then (if (t201.length : Int) = 34 then (if t211 = 0 then (if t210 = 34 then ((cellaretlaw4_one.f).bind fun bt234 => (if (t205.toList == bt234.1.toList && (t206.toList == bt234.2.1.toList && (t207 == bt234.2.2.1 && (t208 == bt234.2.2.2.1 && (t209 == bt234.2.2.2.2))))) = true then (if bt226.2 = 0 then (if (bt226.1.length : Int) = 80 then (if bt230.2 = 0 then (if (bt230.1.length : Int) = 2 then (if 1 < (bt230.1.length : Int) then ((cellaretlaw4_one.f).bind fun bt240 => (if ((((rd_T54 bt230.1 1).f0).toList) == bt240.1.toList && ((((rd_T54 bt230.1 1).f1).toList) == bt240.2.1.toList && (((rd_T54 bt230.1 1).f2) == bt240.2.2.1 && (((rd_T54 bt230.1 1).f3) == bt240.2.2.2.1 && (((rd_T54 bt230.1 1).f4) == bt240.2.2.2.2))))) = true then ((cellaretlaw4_one.f).bind fun bt245 => ((rec_Good.f bt245.1 bt245.2.1 bt245.2.2.1 bt245.2.2.2.1 bt245.2.2.2.2).bind fun t250 => (if t250 = true then ((cellaretlaw4_one.f).bind fun bt251 => ((rec_Size.f bt251.1 bt251.2.1 bt251.2.2.1 bt251.2.2.2.1 bt251.2.2.2.2).bind fun t256 => (some (t256 == 34)))) else (none)))) else (none))) else (none)) else (none)) else (none)) else (none)) else (none)) else (none))) else (none)) else (none)) else (none)) else (none)))) = some r := H
 have A5 := Aside0.mk A50
 clear A50
 obtain ⟨y223, hy223⟩ : ∃ y_ : List (S54), y_ = (([(⟨t213, t214, t215, t216, t217⟩ : S54), (⟨t218, t219, t220, t221, t222⟩ : S54)] : List (S54))) := ⟨_, rfl⟩
 replace H : ((rec_Lay.f k y223 80).bind fun bt226 => ((rec_List.f k bt226.1).bind fun bt230 => (if t204 = 0 then (if (t201.length : Int) = 34 then (if t211 = 0 then (if t210 = 34 then ((cellaretlaw4_one.f).bind fun bt234 => (if (t205.toList == bt234.1.toList && (t206.toList == bt234.2.1.toList && (t207 == bt234.2.2.1 && (t208 == bt234.2.2.2.1 && (t209 == bt234.2.2.2.2))))) = true then (if bt226.2 = 0 then (if (bt226.1.length : Int) = 80 then (if bt230.2 = 0 then (if (bt230.1.length : Int) = 2 then (if 1 < (bt230.1.length : Int) then ((cellaretlaw4_one.f).bind fun bt240 => (if ((((rd_T54 bt230.1 1).f0).toList) == bt240.1.toList && ((((rd_T54 bt230.1 1).f1).toList) == bt240.2.1.toList && (((rd_T54 bt230.1 1).f2) == bt240.2.2.1 && (((rd_T54 bt230.1 1).f3) == bt240.2.2.2.1 && (((rd_T54 bt230.1 1).f4) == bt240.2.2.2.2))))) = true then ((cellaretlaw4_one.f).bind fun bt245 => ((rec_Good.f bt245.1 bt245.2.1 bt245.2.2.1 bt245.2.2.2.1 bt245.2.2.2.2).bind fun t250 => (if t250 = true then ((cellaretlaw4_one.f).bind fun bt251 => ((rec_Size.f bt251.1 bt251.2.1 bt251.2.2.1 bt251.2.2.2.1 bt251.2.2.2.2).bind fun t256 => (some (t256 == 34)))) else (none)))) else (none))) else (none)) else (none)) else (none)) else (none)) else (none)) else (none))) else (none)) else (none)) else (none)) else (none)))) = some r := by first | (rw [hy223]; with_reducible exact H) | (have H2_ := (Option.bind_some _ _).symm.trans H; rw [hy223]; with_reducible exact H2_) | (have H2_ := (Option.bind_some _ _).symm.trans H; with_reducible exact H2_) | with_reducible exact H | (rw [hy223]; exact H) | exact H
 have Ny223 := Aside0.mk hy223
 clear hy223
 replace H := Option.bind_eq_some_iff.mp H
 obtain ⟨⟨t226, t227⟩, A60, H⟩ := H
 replace H : ((rec_List.f k t226).bind fun bt230 => (if t204 = 0 then (if (t201.length : Int) = 34 then (if t211 = 0 then (if t210 = 34 then ((cellaretlaw4_one.f).bind fun bt234 => (if (t205.toList == bt234.1.toList && (t206.toList == bt234.2.1.toList && (t207 == bt234.2.2.1 && (t208 == bt234.2.2.2.1 && (t209 == bt234.2.2.2.2))))) = true then (if t227 = 0 then (if (t226.length : Int) = 80 then (if bt230.2 = 0 then (if (bt230.1.length : Int) = 2 then (if 1 < (bt230.1.length : Int) then ((cellaretlaw4_one.f).bind fun bt240 => (if ((((rd_T54 bt230.1 1).f0).toList) == bt240.1.toList && ((((rd_T54 bt230.1 1).f1).toList) == bt240.2.1.toList && (((rd_T54 bt230.1 1).f2) == bt240.2.2.1 && (((rd_T54 bt230.1 1).f3) == bt240.2.2.2.1 && (((rd_T54 bt230.1 1).f4) == bt240.2.2.2.2))))) = true then ((cellaretlaw4_one.f).bind fun bt245 => ((rec_Good.f bt245.1 bt245.2.1 bt245.2.2.1 bt245.2.2.2.1 bt245.2.2.2.2).bind fun t250 => (if t250 = true then ((cellaretlaw4_one.f).bind fun bt251 => ((rec_Size.f bt251.1 bt251.2.1 bt251.2.2.1 bt251.2.2.2.1 bt251.2.2.2.2).bind fun t256 => (some (t256 == 34)))) else (none)))) else (none))) else (none)) else (none)) else (none)) else (none)) else (none)) else (none))) else (none)) else (none)) else (none)) else (none))) = some r := H
 have A6 := Aside0.mk A60
 clear A60
 replace H := Option.bind_eq_some_iff.mp H
 obtain ⟨⟨t230, t233⟩, A70, H⟩ := H
 replace H : (if t204 = 0 then (if (t201.length : Int) = 34 then (if t211 = 0 then (if t210 = 34 then ((cellaretlaw4_one.f).bind fun bt234 => (if (t205.toList == bt234.1.toList && (t206.toList == bt234.2.1.toList && (t207 == bt234.2.2.1 && (t208 == bt234.2.2.2.1 && (t209 == bt234.2.2.2.2))))) = true then (if t227 = 0 then (if (t226.length : Int) = 80 then (if t233 = 0 then (if (t230.length : Int) = 2 then (if 1 < (t230.length : Int) then ((cellaretlaw4_one.f).bind fun bt240 => (if ((((rd_T54 t230 1).f0).toList) == bt240.1.toList && ((((rd_T54 t230 1).f1).toList) == bt240.2.1.toList && (((rd_T54 t230 1).f2) == bt240.2.2.1 && (((rd_T54 t230 1).f3) == bt240.2.2.2.1 && (((rd_T54 t230 1).f4) == bt240.2.2.2.2))))) = true then ((cellaretlaw4_one.f).bind fun bt245 => ((rec_Good.f bt245.1 bt245.2.1 bt245.2.2.1 bt245.2.2.2.1 bt245.2.2.2.2).bind fun t250 => (if t250 = true then ((cellaretlaw4_one.f).bind fun bt251 => ((rec_Size.f bt251.1 bt251.2.1 bt251.2.2.1 bt251.2.2.2.1 bt251.2.2.2.2).bind fun t256 => (some (t256 == 34)))) else (none)))) else (none))) else (none)) else (none)) else (none)) else (none)) else (none)) else (none))) else (none)) else (none)) else (none)) else (none)) = some r := H
 have A7 := Aside0.mk A70
 clear A70
 by_cases c8 : t204 = 0
 ·rw [if_pos c8] at H
  have c8b0 : (t204 == 0) = true := beq_iff_eq.mpr c8
  have c8b1 : (t204 != 0) = false := bne_eq_false_iff_eq.mpr c8
  clear c8
  by_cases c9 : (t201.length : Int) = 34
  ·rw [if_pos c9] at H
   have c9b0 : ((t201.length : Int) == 34) = true := beq_iff_eq.mpr c9
   have c9b1 : ((t201.length : Int) != 34) = false := bne_eq_false_iff_eq.mpr c9
   clear c9
   by_cases c10 : t211 = 0
   ·rw [if_pos c10] at H
    have c10b0 : (t211 == 0) = true := beq_iff_eq.mpr c10
    have c10b1 : (t211 != 0) = false := bne_eq_false_iff_eq.mpr c10
    clear c10
    by_cases c11 : t210 = 34
    ·rw [if_pos c11] at H
     have c11b0 : (t210 == 34) = true := beq_iff_eq.mpr c11
     have c11b1 : (t210 != 34) = false := bne_eq_false_iff_eq.mpr c11
     clear c11
     replace H := Option.bind_eq_some_iff.mp H
     obtain ⟨⟨t234, t235, t236, t237, t238⟩, A120, H⟩ := H
     replace H : (if (t205.toList == t234.toList && (t206.toList == t235.toList && (t207 == t236 && (t208 == t237 && (t209 == t238))))) = true then (if t227 = 0 then (if (t226.length : Int) = 80 then (if t233 = 0 then (if (t230.length : Int) = 2 then (if 1 < (t230.length : Int) then ((cellaretlaw4_one.f).bind fun bt240 => (if ((((rd_T54 t230 1).f0).toList) == bt240.1.toList && ((((rd_T54 t230 1).f1).toList) == bt240.2.1.toList && (((rd_T54 t230 1).f2) == bt240.2.2.1 && (((rd_T54 t230 1).f3) == bt240.2.2.2.1 && (((rd_T54 t230 1).f4) == bt240.2.2.2.2))))) = true then ((cellaretlaw4_one.f).bind fun bt245 => ((rec_Good.f bt245.1 bt245.2.1 bt245.2.2.1 bt245.2.2.2.1 bt245.2.2.2.2).bind fun t250 => (if t250 = true then ((cellaretlaw4_one.f).bind fun bt251 => ((rec_Size.f bt251.1 bt251.2.1 bt251.2.2.1 bt251.2.2.2.1 bt251.2.2.2.2).bind fun t256 => (some (t256 == 34)))) else (none)))) else (none))) else (none)) else (none)) else (none)) else (none)) else (none)) else (none)) = some r := H
     have A12 := Aside0.mk A120
     clear A120
     by_cases c13 : (t205.toList == t234.toList && (t206.toList == t235.toList && (t207 == t236 && (t208 == t237 && (t209 == t238))))) = true
     ·rw [if_pos c13] at H
      have c13b0 : (t205.toList == t234.toList && (t206.toList == t235.toList && (t207 == t236 && (t208 == t237 && (t209 == t238))))) = true := c13
      (try (have c13b1 : decide (t205.toList = t234.toList && (t206.toList == t235.toList && (t207 == t236 && (t208 == t237 && (t209 == t238))))) = true := by simpa using c13))
      (try (have c13b2 : (t205.toList == t234.toList && (t206.toList == t235.toList && (t207 == t236 && (t208 == t237 && (t209 == t238))))) = true := by simpa using c13))
      clear c13
      by_cases c14 : t227 = 0
      ·rw [if_pos c14] at H
       have c14b0 : (t227 == 0) = true := beq_iff_eq.mpr c14
       have c14b1 : (t227 != 0) = false := bne_eq_false_iff_eq.mpr c14
       clear c14
       by_cases c15 : (t226.length : Int) = 80
       ·rw [if_pos c15] at H
        have c15b0 : ((t226.length : Int) == 80) = true := beq_iff_eq.mpr c15
        have c15b1 : ((t226.length : Int) != 80) = false := bne_eq_false_iff_eq.mpr c15
        clear c15
        by_cases c16 : t233 = 0
        ·rw [if_pos c16] at H
         have c16b0 : (t233 == 0) = true := beq_iff_eq.mpr c16
         have c16b1 : (t233 != 0) = false := bne_eq_false_iff_eq.mpr c16
         clear c16
         by_cases c17 : (t230.length : Int) = 2
         ·rw [if_pos c17] at H
          have c17b0 : ((t230.length : Int) == 2) = true := beq_iff_eq.mpr c17
          have c17b1 : ((t230.length : Int) != 2) = false := bne_eq_false_iff_eq.mpr c17
          clear c17
          by_cases c18 : 1 < (t230.length : Int)
          ·rw [if_pos c18] at H
           have c18b0 : decide (1 < (t230.length : Int)) = true := decide_eq_true c18
           have c18b1 : decide (1 < t230.length) = true := decide_eq_true (by omega)
           clear c18
           replace H := Option.bind_eq_some_iff.mp H
           obtain ⟨⟨t240, t241, t242, t243, t244⟩, A190, H⟩ := H
           replace H : (if ((((rd_T54 t230 1).f0).toList) == t240.toList && ((((rd_T54 t230 1).f1).toList) == t241.toList && (((rd_T54 t230 1).f2) == t242 && (((rd_T54 t230 1).f3) == t243 && (((rd_T54 t230 1).f4) == t244))))) = true then ((cellaretlaw4_one.f).bind fun bt245 => ((rec_Good.f bt245.1 bt245.2.1 bt245.2.2.1 bt245.2.2.2.1 bt245.2.2.2.2).bind fun t250 => (if t250 = true then ((cellaretlaw4_one.f).bind fun bt251 => ((rec_Size.f bt251.1 bt251.2.1 bt251.2.2.1 bt251.2.2.2.1 bt251.2.2.2.2).bind fun t256 => (some (t256 == 34)))) else (none)))) else (none)) = some r := H
           have A19 := Aside0.mk A190
           clear A190
           by_cases c20 : ((((rd_T54 t230 1).f0).toList) == t240.toList && ((((rd_T54 t230 1).f1).toList) == t241.toList && (((rd_T54 t230 1).f2) == t242 && (((rd_T54 t230 1).f3) == t243 && (((rd_T54 t230 1).f4) == t244))))) = true
           ·rw [if_pos c20] at H
            have c20b0 : ((((rd_T54 t230 1).f0).toList) == t240.toList && ((((rd_T54 t230 1).f1).toList) == t241.toList && (((rd_T54 t230 1).f2) == t242 && (((rd_T54 t230 1).f3) == t243 && (((rd_T54 t230 1).f4) == t244))))) = true := c20
            (try (have c20b1 : decide ((((rd_T54 t230 1).f0).toList) = t240.toList && ((((rd_T54 t230 1).f1).toList) == t241.toList && (((rd_T54 t230 1).f2) == t242 && (((rd_T54 t230 1).f3) == t243 && (((rd_T54 t230 1).f4) == t244))))) = true := by simpa using c20))
            (try (have c20b2 : ((((rd_T54 t230 1).f0).toList) == t240.toList && ((((rd_T54 t230 1).f1).toList) == t241.toList && (((rd_T54 t230 1).f2) == t242 && (((rd_T54 t230 1).f3) == t243 && (((rd_T54 t230 1).f4) == t244))))) = true := by simpa using c20))
            clear c20
            replace H := Option.bind_eq_some_iff.mp H
            obtain ⟨⟨t245, t246, t247, t248, t249⟩, A210, H⟩ := H
            replace H : ((rec_Good.f t245 t246 t247 t248 t249).bind fun t250 => (if t250 = true then ((cellaretlaw4_one.f).bind fun bt251 => ((rec_Size.f bt251.1 bt251.2.1 bt251.2.2.1 bt251.2.2.2.1 bt251.2.2.2.2).bind fun t256 => (some (t256 == 34)))) else (none))) = some r := H
            have A21 := Aside0.mk A210
            clear A210
            replace H := Option.bind_eq_some_iff.mp H
            obtain ⟨t250, A220, H⟩ := H
            replace H : (if t250 = true then ((cellaretlaw4_one.f).bind fun bt251 => ((rec_Size.f bt251.1 bt251.2.1 bt251.2.2.1 bt251.2.2.2.1 bt251.2.2.2.2).bind fun t256 => (some (t256 == 34)))) else (none)) = some r := H
            have A22 := Aside0.mk A220
            clear A220
            by_cases c23 : t250 = true
            ·subst c23
             have H1 : ((cellaretlaw4_one.f).bind fun bt251 => ((rec_Size.f bt251.1 bt251.2.1 bt251.2.2.1 bt251.2.2.2.1 bt251.2.2.2.2).bind fun t256 => (some (t256 == 34)))) = some r := by rw [if_pos rfl] at H; exact H
             clear H
             have H := H1
             clear H1
             replace H := Option.bind_eq_some_iff.mp H
             obtain ⟨⟨t251, t252, t253, t254, t255⟩, A240, H⟩ := H
             replace H : ((rec_Size.f t251 t252 t253 t254 t255).bind fun t256 => (some (t256 == 34))) = some r := H
             have A24 := Aside0.mk A240
             clear A240
             replace H := Option.bind_eq_some_iff.mp H
             obtain ⟨t256, A250, H⟩ := H
             replace H : (some (t256 == 34)) = some r := H
             have A25 := Aside0.mk A250
             clear A250
             obtain rfl := Option.some.inj H
             go_enter Try.func38, Try.ntmps38
             try go_wp2_with (first | ((with_reducible refine gate_callee (f := 42) rfl ?_); refine goesL_ (some 11) rfl rfl Try.func42 (by kernel_rfl) rfl #[] rfl (by (try simp only [List.map_toArray, List.map_cons, List.map_nil]); first | done | rfl | (simp only [List.length_drop, List.length_take]; rfl) | (go_simp; done) | (go_simp; rfl)) ?_; (with_reducible refine (cellaretlaw4_one.calls  t196 t197 t198 t199 t200 _ A1.out).mono ?_); rintro e w26 ⟨rfl, hb⟩; refine ⟨_, rfl, ?_⟩; have n0_ := Aside0.mk (below_step (by repeat (first | (with_reducible first | exact HB.out | apply below_alloc | apply pw_below_drewN | apply below_drew1) | exact HB.out)) hb); clear HB; have HB := n0_; clear n0_; (try clear hb); (try clear hb2); (try clear hk); (try clear hi)) | ((with_reducible refine gate_callee (f := 39) rfl ?_); refine goesL_ (some 12) rfl rfl Try.func39 (by kernel_rfl) rfl #[.agg #[.string t196, .string t197, .int .u32 t198, .int .i64 t199, .int .u64 t200]] rfl (by (try simp only [List.map_toArray, List.map_cons, List.map_nil]); first | done | rfl | (simp only [List.length_drop, List.length_take]; rfl) | (go_simp; done) | (go_simp; rfl)) ?_; (with_reducible refine (rec_Put.calls k t196 t197 t198 t199 t200 t201 t204 _ A2.out).mono ?_); rintro e w27 ⟨v202, rfl, ho0, hb⟩; refine ⟨_, rfl, ?_⟩; have n0_ := Aside0.mk (Kd.R_lower ho0 (below_size (by repeat (first | (with_reducible first | exact HB.out | apply below_alloc | apply pw_below_drewN | apply below_drew1) | exact HB.out)))); have n1_ := Aside0.mk (below_step (by repeat (first | (with_reducible first | exact HB.out | apply below_alloc | apply pw_below_drewN | apply below_drew1) | exact HB.out)) hb); clear HB; have HO203 := n0_; have HB := n1_; clear n0_ n1_; (try clear hb); (try clear hb2); (try clear hk); (try clear hi); (try clear ho0); obtain ⟨Ao28, co28, eo28⟩ := Kd.R_slice HO203.out; subst eo28) | ((with_reducible refine gate_callee (f := 40) rfl ?_); refine goesL_ (some 17) rfl rfl Try.func40 (by kernel_rfl) rfl #[.slice Ao28 t201.length co28] rfl (by (try simp only [List.map_toArray, List.map_cons, List.map_nil]); first | done | rfl | (simp only [List.length_drop, List.length_take]; rfl) | (go_simp; done) | (go_simp; rfl)) ?_; (with_reducible refine (rec_Take.calls k _ _ t201 t205 t206 t207 t208 t209 t210 t211 _ ?side1 ?side2 A3.out).mono ?_); (case side1 => repeat (first | exact (Kd.R_reads' HO203.out).2.2 | (with_reducible refine Kd.C_alloc ?_ _) | (with_reducible refine Kd.C_drewN ?_ _) | (with_reducible refine Kd.C_drew ?_))); (case side2 => exact (Kd.R_reads' HO203.out).2.1); rintro e w29 ⟨rfl, hb⟩; refine ⟨_, rfl, ?_⟩; have n0_ := Aside0.mk (Kd.R_below (by (with_reducible repeat (first | apply Kd.R_alloc | apply Kd.R_drewN | apply Kd.R_drew)); exact HO203.out) hb); have n1_ := Aside0.mk (below_step (by repeat (first | (with_reducible first | exact HB.out | apply below_alloc | apply pw_below_drewN | apply below_drew1) | exact HB.out)) hb); clear HO203; clear HB; have HO203 := n0_; have HB := n1_; clear n0_ n1_; (try clear hb); (try clear hb2); (try clear hk); (try clear hi)) | ((with_reducible refine gate_dst (N := 3) rfl ?_); (try (refine gate_guard (by rfl) ?_; dsimp only)); refine box_event ?hg (N := 3) ?hd (cs := #[.string (⟨#[]⟩ : ByteArray), .string (⟨#[]⟩ : ByteArray), .int .u32 0, .int .i64 0, .int .u64 0]) (t := 54) ?hr ?_; (case hd => rfl); (case hg => rfl); (case hr => first | (go_simp; done) | (go_simp; rfl)); intro gb212 hg w30 hbox hb; have n0_ := Aside0.mk (Kd.R_below (by (with_reducible repeat (first | apply Kd.R_alloc | apply Kd.R_drewN | apply Kd.R_drew)); exact HO203.out) hb); have n1_ := Aside0.mk (below_step (by repeat (first | (with_reducible first | exact HB.out | apply below_alloc | apply pw_below_drewN | apply below_drew1) | exact HB.out)) hb); have n2_ := Aside0.mk (hbox); have n3_ := Aside0.mk ((by rw [hg]; exact (below_size (by repeat (first | (with_reducible first | exact HB.out | apply below_alloc | apply pw_below_drewN | apply below_drew1) | exact HB.out))) : w.heap.size ≤ gb212)); have n4_ := Aside0.mk ((by rw [hg]; exact (below_size (by repeat (first | (with_reducible first | exact HB.out | apply below_alloc | apply pw_below_drewN | apply below_drew1) | exact HB.out))) : w.heap.size ≤ gb212)); clear HO203; clear HB; have HO203 := n0_; have HB := n1_; have BK212 := n2_; have GW212 := n3_; have GE212 := n4_; clear n0_ n1_ n2_ n3_ n4_; clear hb hbox hg; have hcz31_0 : w30.cell? ⟨gb212, 0, none⟩ = some (.string (⟨#[]⟩ : ByteArray)) := (blk_cell BK212.out 0).trans rfl; have hcz31_1 : w30.cell? ⟨gb212, 1, none⟩ = some (.string (⟨#[]⟩ : ByteArray)) := (blk_cell BK212.out 1).trans rfl; have hcz31_2 : w30.cell? ⟨gb212, 2, none⟩ = some (.int .u32 0) := (blk_cell BK212.out 2).trans rfl; have hcz31_3 : w30.cell? ⟨gb212, 3, none⟩ = some (.int .i64 0) := (blk_cell BK212.out 3).trans rfl; have hcz31_4 : w30.cell? ⟨gb212, 4, none⟩ = some (.int .u64 0) := (blk_cell BK212.out 4).trans rfl; have hfz31_0 := blk_frozen BK212.out 0; have hfz31_1 := blk_frozen BK212.out 1; have hfz31_2 := blk_frozen BK212.out 2; have hfz31_3 := blk_frozen BK212.out 3; have hfz31_4 := blk_frozen BK212.out 4) | ((with_reducible refine gate_callee (f := 42) rfl ?_); refine goesL_ (some 22) rfl rfl Try.func42 (by kernel_rfl) rfl #[] rfl (by (try simp only [List.map_toArray, List.map_cons, List.map_nil]); first | done | rfl | (simp only [List.length_drop, List.length_take]; rfl) | (go_simp; done) | (go_simp; rfl)) ?_; (with_reducible refine (cellaretlaw4_one.calls  t213 t214 t215 t216 t217 _ A4.out).mono ?_); rintro e w32 ⟨rfl, hb⟩; refine ⟨_, rfl, ?_⟩; have n0_ := Aside0.mk (Kd.R_below (by (with_reducible repeat (first | apply Kd.R_alloc | apply Kd.R_drewN | apply Kd.R_drew)); exact (Kd.R_mono (Kd.R_far (p := ⟨gb212, 4, none⟩) (Kd.R_far (p := ⟨gb212, 3, none⟩) (Kd.R_far (p := ⟨gb212, 2, none⟩) (Kd.R_far (p := ⟨gb212, 1, none⟩) (Kd.R_far (p := ⟨gb212, 0, none⟩) (Kd.R_types HO203.out BK212.out (by decide)) (fun _ hk => hk.2) (.string t205)) (fun _ hk => hk.2) (.string t206)) (fun _ hk => hk.2) (.int .u32 t207)) (fun _ hk => hk.2) (.int .i64 t208)) (fun _ hk => hk.2) (.int .u64 t209)) (fun _ h_ => h_.1))) hb); have n1_ := Aside0.mk (blk_below (g := gb212) (o := .cells #[.string t205, .string t206, .int .u32 t207, .int .i64 t208, .int .u64 t209] 54 (0, 0)) (by (with_reducible repeat (first | refine blk_drewN ?_ _ | refine blk_drew ?_ | refine blk_alloc ?_ _)); refine blk_put (cs := #[.string t205, .string t206, .int .u32 t207, .int .i64 t208, .int .u64 0]) ?_ 4 _ rfl; (with_reducible repeat (first | refine blk_drewN ?_ _ | refine blk_drew ?_ | refine blk_alloc ?_ _)); refine blk_put (cs := #[.string t205, .string t206, .int .u32 t207, .int .i64 0, .int .u64 0]) ?_ 3 _ rfl; (with_reducible repeat (first | refine blk_drewN ?_ _ | refine blk_drew ?_ | refine blk_alloc ?_ _)); refine blk_put (cs := #[.string t205, .string t206, .int .u32 0, .int .i64 0, .int .u64 0]) ?_ 2 _ rfl; (with_reducible repeat (first | refine blk_drewN ?_ _ | refine blk_drew ?_ | refine blk_alloc ?_ _)); refine blk_put (cs := #[.string t205, .string (⟨#[]⟩ : ByteArray), .int .u32 0, .int .i64 0, .int .u64 0]) ?_ 1 _ rfl; (with_reducible repeat (first | refine blk_drewN ?_ _ | refine blk_drew ?_ | refine blk_alloc ?_ _)); refine blk_put (cs := #[.string (⟨#[]⟩ : ByteArray), .string (⟨#[]⟩ : ByteArray), .int .u32 0, .int .i64 0, .int .u64 0]) ?_ 0 _ rfl; (with_reducible repeat (first | refine blk_drewN ?_ _ | refine blk_drew ?_ | refine blk_alloc ?_ _)); exact BK212.out) hb); have n2_ := Aside0.mk (below_step (by repeat (first | (with_reducible first | exact HB.out | apply below_alloc | apply pw_below_drewN | apply below_drew1 | refine below_set ?_ GE212.out) | exact HB.out)) hb); clear HO203; clear BK212; clear HB; have HO203 := n0_; have BK212 := n1_; have HB := n2_; clear n0_ n1_ n2_; (try clear hb); (try clear hb2); (try clear hk); (try clear hi)) | ((with_reducible refine gate_callee (f := 42) rfl ?_); refine goesL_ (some 23) rfl rfl Try.func42 (by kernel_rfl) rfl #[] rfl (by (try simp only [List.map_toArray, List.map_cons, List.map_nil]); first | done | rfl | (simp only [List.length_drop, List.length_take]; rfl) | (go_simp; done) | (go_simp; rfl)) ?_; (with_reducible refine (cellaretlaw4_one.calls  t218 t219 t220 t221 t222 _ A5.out).mono ?_); rintro e w33 ⟨rfl, hb⟩; refine ⟨_, rfl, ?_⟩; have n0_ := Aside0.mk (Kd.R_below (by (with_reducible repeat (first | apply Kd.R_alloc | apply Kd.R_drewN | apply Kd.R_drew)); exact HO203.out) hb); have n1_ := Aside0.mk (blk_below (g := gb212) (o := .cells #[.string t205, .string t206, .int .u32 t207, .int .i64 t208, .int .u64 t209] 54 (0, 0)) (by (with_reducible repeat (first | refine blk_drewN ?_ _ | refine blk_drew ?_ | refine blk_alloc ?_ _)); exact BK212.out) hb); have n2_ := Aside0.mk (below_step (by repeat (first | (with_reducible first | exact HB.out | apply below_alloc | apply pw_below_drewN | apply below_drew1 | refine below_set ?_ GE212.out) | exact HB.out)) hb); clear HO203; clear BK212; clear HB; have HO203 := n0_; have BK212 := n1_; have HB := n2_; clear n0_ n1_ n2_; (try clear hb); (try clear hb2); (try clear hk); (try clear hi)) | ((with_reducible refine gate_dst (N := 24) rfl ?_); (try (refine gate_guard (by rfl) ?_; dsimp only)); refine Kd.R_lit k54 _ 54 ?hg (N := 24) ?hd (xs := ([(⟨t213, t214, t215, t216, t217⟩ : S54), (⟨t218, t219, t220, t221, t222⟩ : S54)] : List (S54))) (inner := [.string t213, .string t214, .int .u32 t215, .int .i64 t216, .int .u64 t217, .string t218, .string t219, .int .u32 t220, .int .i64 t221, .int .u64 t222]) (ok := fun _ => True) (okp := fun _ => True) ?hr ?hp (fun _ hk => hk) trivial (Below.refl _ _) (Nat.le_refl _) (by simp) ?_; (case hd => rfl); (case hg => rfl); (case hr => first | (go_simp; done) | (go_simp; rfl)); (case hp => exact (Reps.c5 (show Kd.M k54 _ _ _ (⟨t213, t214, t215, t216, t217⟩ : S54) [.string t213, .string t214, .int .u32 t215, .int .i64 t216, .int .u64 t217] from (k54_mkM _ _ _ (⟨t213, t214, t215, t216, t217⟩ : S54) )) (Reps.c5 (show Kd.M k54 _ _ _ (⟨t218, t219, t220, t221, t222⟩ : S54) [.string t218, .string t219, .int .u32 t220, .int .i64 t221, .int .u64 t222] from (k54_mkM _ _ _ (⟨t218, t219, t220, t221, t222⟩ : S54) )) (Reps.none _ _)))); intro v224 w34 ho35 hb hg_ hnew_; clear hg_ hnew_; (first | rw [← Ny223.out] at ho35 | (simp only [Int.reduceToNat] at ho35; rw [← Ny223.out] at ho35)); have n0_ := Aside0.mk (Kd.R_below (by (with_reducible repeat (first | apply Kd.R_alloc | apply Kd.R_drewN | apply Kd.R_drew)); exact HO203.out) hb); have n1_ := Aside0.mk (Kd.R_lower (Kd.R_newB ho35 (g := gb212) (o := .cells #[.string t205, .string t206, .int .u32 t207, .int .i64 t208, .int .u64 t209] 54 (0, 0)) (by (with_reducible repeat (first | refine blk_drewN ?_ _ | refine blk_drew ?_ | refine blk_alloc ?_ _)); exact BK212.out)) (below_size (by repeat (first | (with_reducible first | exact HB.out | apply below_alloc | apply pw_below_drewN | apply below_drew1 | refine below_set ?_ GE212.out) | exact HB.out)))); have n2_ := Aside0.mk (blk_below (g := gb212) (o := .cells #[.string t205, .string t206, .int .u32 t207, .int .i64 t208, .int .u64 t209] 54 (0, 0)) (by (with_reducible repeat (first | refine blk_drewN ?_ _ | refine blk_drew ?_ | refine blk_alloc ?_ _)); exact BK212.out) hb); have n3_ := Aside0.mk (below_step (by repeat (first | (with_reducible first | exact HB.out | apply below_alloc | apply pw_below_drewN | apply below_drew1 | refine below_set ?_ GE212.out) | exact HB.out)) hb); clear HO203; clear BK212; clear HB; have HO203 := n0_; have HO225 := n1_; have BK212 := n2_; have HB := n3_; clear n0_ n1_ n2_ n3_; clear hb ho35; obtain ⟨Ao36, co36, eo36⟩ := Kd.R_slice HO225.out; subst eo36) | ((with_reducible refine gate_callee (f := 41) rfl ?_); refine goesL_ (some 25) rfl rfl Try.func41 (by kernel_rfl) rfl #[.slice Ao36 y223.length co36, .int .i64 80] rfl (by (try simp only [List.map_toArray, List.map_cons, List.map_nil]); first | done | rfl | (simp only [List.length_drop, List.length_take]; rfl) | (go_simp; done) | (go_simp; rfl)) ?_; (with_reducible refine (rec_Lay.calls k _ _ y223 80 t226 t227 _ ?side1 ?side2 A6.out).mono ?_); (case side1 => repeat (first | exact (Kd.R_reads' HO225.out).2.2 | (with_reducible refine Kd.C_alloc ?_ _) | (with_reducible refine Kd.C_drewN ?_ _) | (with_reducible refine Kd.C_drew ?_))); (case side2 => exact (Kd.R_reads' HO225.out).2.1); rintro e w37 ⟨v228, rfl, ho0, hb⟩; refine ⟨_, rfl, ?_⟩; have n0_ := Aside0.mk (Kd.R_elder' (by (with_reducible repeat (first | apply Kd.R_alloc | apply Kd.R_drewN | apply Kd.R_drew)); exact HO203.out) (Kd.R_base ho0) hb); have n1_ := Aside0.mk (Kd.R_below (by (with_reducible repeat (first | apply Kd.R_alloc | apply Kd.R_drewN | apply Kd.R_drew)); exact HO225.out) hb); have n2_ := Aside0.mk (Kd.R_lower (Kd.R_new' ho0 (Kd.R_lt (by (with_reducible repeat (first | apply Kd.R_alloc | apply Kd.R_drewN | apply Kd.R_drew)); exact HO203.out))) (below_size (by repeat (first | (with_reducible first | exact HB.out | apply below_alloc | apply pw_below_drewN | apply below_drew1 | refine below_set ?_ GE212.out) | exact HB.out)))); have n3_ := Aside0.mk (blk_below (g := gb212) (o := .cells #[.string t205, .string t206, .int .u32 t207, .int .i64 t208, .int .u64 t209] 54 (0, 0)) (by (with_reducible repeat (first | refine blk_drewN ?_ _ | refine blk_drew ?_ | refine blk_alloc ?_ _)); exact BK212.out) hb); have n4_ := Aside0.mk (below_step (by repeat (first | (with_reducible first | exact HB.out | apply below_alloc | apply pw_below_drewN | apply below_drew1 | refine below_set ?_ GE212.out) | exact HB.out)) hb); clear HO203; clear HO225; clear BK212; clear HB; have HO203 := n0_; have HO225 := n1_; have HO229 := n2_; have BK212 := n3_; have HB := n4_; clear n0_ n1_ n2_ n3_ n4_; (try clear hb); (try clear hb2); (try clear hk); (try clear hi); (try clear ho0); obtain ⟨Ao38, co38, eo38⟩ := Kd.R_slice HO229.out; subst eo38) | ((with_reducible refine gate_callee (f := 43) rfl ?_); refine goesL_ (some 30) rfl rfl Try.func43 (by kernel_rfl) rfl #[.slice Ao38 t226.length co38] rfl (by (try simp only [List.map_toArray, List.map_cons, List.map_nil]); first | done | rfl | (simp only [List.length_drop, List.length_take]; rfl) | (go_simp; done) | (go_simp; rfl)) ?_; (with_reducible refine (rec_List.calls k (fun k_ => some k_ = (.slice Ao38 t226.length co38 : Value).ownBlock) _ _ t226 t230 t233 _ ?side1 A7.out).mono ?_); (case side1 => exact Kd.R_V (Kd.R_tight rfl (Kd.R_types (Kd.R_apart' (HO229.out) (Kd.R_typed HO225.out) (by decide)) BK212.out (by decide)))); rintro e w39 ⟨v231, rfl, ho0, hb⟩; refine ⟨_, rfl, ?_⟩; have n0_ := Aside0.mk (Kd.R_below (by (with_reducible repeat (first | apply Kd.R_alloc | apply Kd.R_drewN | apply Kd.R_drew)); exact HO203.out) hb); have n1_ := Aside0.mk (Kd.R_elder' (by (with_reducible repeat (first | apply Kd.R_alloc | apply Kd.R_drewN | apply Kd.R_drew)); exact HO225.out) (Kd.R_base ho0) hb); have n2_ := Aside0.mk (Kd.R_below (by (with_reducible repeat (first | apply Kd.R_alloc | apply Kd.R_drewN | apply Kd.R_drew)); exact HO229.out) hb); have n3_ := Aside0.mk (Kd.R_lower (Kd.R_newB (Kd.R_new' (Kd.R_mono (ok' := fun k_ => True) ho0 (fun _ hk_ => trivial)) (Kd.R_lt (by (with_reducible repeat (first | apply Kd.R_alloc | apply Kd.R_drewN | apply Kd.R_drew)); exact HO225.out))) (g := gb212) (o := .cells #[.string t205, .string t206, .int .u32 t207, .int .i64 t208, .int .u64 t209] 54 (0, 0)) (by (with_reducible repeat (first | refine blk_drewN ?_ _ | refine blk_drew ?_ | refine blk_alloc ?_ _)); exact BK212.out)) (below_size (by repeat (first | (with_reducible first | exact HB.out | apply below_alloc | apply pw_below_drewN | apply below_drew1 | refine below_set ?_ GE212.out) | exact HB.out)))); have n4_ := Aside0.mk (blk_below (g := gb212) (o := .cells #[.string t205, .string t206, .int .u32 t207, .int .i64 t208, .int .u64 t209] 54 (0, 0)) (by (with_reducible repeat (first | refine blk_drewN ?_ _ | refine blk_drew ?_ | refine blk_alloc ?_ _)); exact BK212.out) hb); have n5_ := Aside0.mk (below_step (by repeat (first | (with_reducible first | exact HB.out | apply below_alloc | apply pw_below_drewN | apply below_drew1 | refine below_set ?_ GE212.out) | exact HB.out)) hb); clear HO203; clear HO225; clear HO229; clear BK212; clear HB; have HO203 := n0_; have HO225 := n1_; have HO229 := n2_; have HO232 := n3_; have BK212 := n4_; have HB := n5_; clear n0_ n1_ n2_ n3_ n4_ n5_; (try clear hb); (try clear hb2); (try clear hk); (try clear hi); (try clear ho0)))
             have n0_ := Aside0.mk (Kd.R_drew HO203.out)
             have n1_ := Aside0.mk (Kd.R_drew HO225.out)
             have n2_ := Aside0.mk (Kd.R_drew HO229.out)
             have n3_ := Aside0.mk (Kd.R_drew HO232.out)
             have n4_ := Aside0.mk (blk_drew BK212.out)
             have n5_ := Aside0.mk (below_drew1 HB.out)
             clear HO203
             clear HO225
             clear HO229
             clear HO232
             clear BK212
             clear HB
             have HO203 := n0_
             have HO225 := n1_
             have HO229 := n2_
             have HO232 := n3_
             have BK212 := n4_
             have HB := n5_
             clear n0_ n1_ n2_ n3_ n4_ n5_
             obtain ⟨Ao42, co42, eo42⟩ := Kd.R_slice HO232.out
             (first | subst eo42 | (injection eo42 with f1_ f2_ f3_; have f4_ := f1_.symm; have f5_ := f3_.symm; clear f1_ f2_ f3_; subst f4_; subst f5_))
             have p239 : 0 ≤ (1 : Int) := (by omega)
             have q239 : 1 < (t230.length : Int) := of_decide_eq_true (by first | (with_reducible assumption) | assumption)
             obtain ⟨ad239, e239, hx239_0, hx239_1, hx239_2, hx239_3, hx239_4⟩ := at_T54 (Kd.R_reads' HO232.out).2.2 1 p239 q239
             cases e239
             (try simp only [show (1 : Int).toNat = 1 from rfl, Nat.reduceMul, Nat.reduceEqDiff, Go.Addr.add, ↓reduceIte] at hx239_0)
             (try simp only [show (1 : Int).toNat = 1 from rfl, Nat.reduceMul, Nat.reduceEqDiff, Go.Addr.add, ↓reduceIte] at hx239_1)
             (try simp only [show (1 : Int).toNat = 1 from rfl, Nat.reduceMul, Nat.reduceEqDiff, Go.Addr.add, ↓reduceIte] at hx239_2)
             (try simp only [show (1 : Int).toNat = 1 from rfl, Nat.reduceMul, Nat.reduceEqDiff, Go.Addr.add, ↓reduceIte] at hx239_3)
             (try simp only [show (1 : Int).toNat = 1 from rfl, Nat.reduceMul, Nat.reduceEqDiff, Go.Addr.add, ↓reduceIte] at hx239_4)
             have qi239 : (1 < t230.length) = True := eq_true (by omega)
             (try rw [show ((1 : Int)).toNat = 1 from rfl] at hx239_0)
             (try rw [show 1 * 5 = 5 from rfl] at hx239_0)
             (try rw [show ((1 : Int)).toNat = 1 from rfl] at hx239_1)
             (try rw [show 1 * 5 = 5 from rfl] at hx239_1)
             (try rw [show ((1 : Int)).toNat = 1 from rfl] at hx239_2)
             (try rw [show 1 * 5 = 5 from rfl] at hx239_2)
             (try rw [show ((1 : Int)).toNat = 1 from rfl] at hx239_3)
             (try rw [show 1 * 5 = 5 from rfl] at hx239_3)
             (try rw [show ((1 : Int)).toNat = 1 from rfl] at hx239_4)
             (try rw [show 1 * 5 = 5 from rfl] at hx239_4)
             replace p239 := eq_true p239
             replace q239 := eq_true q239
             refine start_ (n := 55) (S := fun w' => w'.cell? ⟨gb212, 0, none⟩ = some (.string t205) ∧ w'.cell? ⟨gb212, 1, none⟩ = some (.string t206) ∧ w'.cell? ⟨gb212, 2, none⟩ = some (.int .u32 t207) ∧ w'.cell? ⟨gb212, 3, none⟩ = some (.int .i64 t208) ∧ w'.cell? ⟨gb212, 4, none⟩ = some (.int .u64 t209) ∧ w'.cell? ⟨ad239.block, ad239.off + 5, none⟩ = some (.string ((rd_T54 t230 1).f0)) ∧ w'.cell? ⟨ad239.block, ad239.off + 5 + 1, none⟩ = some (.string ((rd_T54 t230 1).f1)) ∧ w'.cell? ⟨ad239.block, ad239.off + 5 + 2, none⟩ = some (.int .u32 ((rd_T54 t230 1).f2)) ∧ w'.cell? ⟨ad239.block, ad239.off + 5 + 3, none⟩ = some (.int .i64 ((rd_T54 t230 1).f3)) ∧ w'.cell? ⟨ad239.block, ad239.off + 5 + 4, none⟩ = some (.int .u64 ((rd_T54 t230 1).f4))) (ds := []) #[false, false, false, false, false, false, false, false, false, false, false, false, false, false, false, false, false, false, false, false, false, false, false, false, false, false, false, false, false, false, false, false, false, false, false, false, false, false, false, false, false, false, false, false, false, false, false, false, false, false, false, false, false, false, false] (by kernel_rfl) rfl rfl ⟨(blk_cell BK212.out 0).trans rfl, (blk_cell BK212.out 1).trans rfl, (blk_cell BK212.out 2).trans rfl, (blk_cell BK212.out 3).trans rfl, (blk_cell BK212.out 4).trans rfl, hx239_0, hx239_1, hx239_2, hx239_3, hx239_4⟩ (fun hHeld => ?_); refine with_tabW cellaretlaw4_awake.tab5 cellaretlaw4_awake.bits5 (fun HT_ HW_ => ?_)
             generalize w39.drew = w40 at HO203 HO225 HO229 HO232 BK212 HB hx239_0 hx239_1 hx239_2 hx239_3 hx239_4 hHeld ⊢
             refine pure_ (i := 0) (N := some 33) (v := ?_) (a' := ?_) #[true, false, false, false, false, false, false, false, false, false, false, false, false, false, false, false, false, false, false, false, false, false, false, false, false, false, false, false, false, false, false, false, false, false, false, false, false, false, false, false, false, false, false, false, false, false, false, false, false, false, false, false, false, false, false] rfl rfl (any_of HT_.out (by kernel_rfl)) (fun _ _ _ h => h) (Or.inl ⟨by rfl, ?_⟩) ?_ ?_
             rotate_left
             ·intro w'
              go_simp
              with_reducible rfl
             rotate_left
             ·simp only [Act.put, List.setIfInBounds_toArray, List.set_cons_zero, List.set_cons_succ, i64_w, i32_w]
              rfl
             refine pure_ (i := 1) (N := some 34) (v := ?_) (a' := ?_) #[true, true, false, false, false, false, false, false, false, false, false, false, false, false, false, false, false, false, false, false, false, false, false, false, false, false, false, false, false, false, false, false, false, false, false, false, false, false, false, false, false, false, false, false, false, false, false, false, false, false, false, false, false, false, false] rfl rfl (any_of HT_.out (by kernel_rfl)) (fun _ _ _ h => h) (Or.inl ⟨by rfl, ?_⟩) ?_ ?_
             rotate_left
             ·intro w'
              go_simp
              with_reducible rfl
             rotate_left
             ·simp only [Act.put, List.setIfInBounds_toArray, List.set_cons_zero, List.set_cons_succ, i64_w, i32_w]
              rfl
             refine pure_ (i := 2) (N := some 35) (v := ?_) (a' := ?_) #[true, true, true, false, false, false, false, false, false, false, false, false, false, false, false, false, false, false, false, false, false, false, false, false, false, false, false, false, false, false, false, false, false, false, false, false, false, false, false, false, false, false, false, false, false, false, false, false, false, false, false, false, false, false, false] rfl rfl (any_of HT_.out (by kernel_rfl)) (fun _ _ _ h => h) (Or.inl ⟨by rfl, ?_⟩) ?_ ?_
             rotate_left
             ·intro w'
              go_simp
              with_reducible rfl
             rotate_left
             ·simp only [Act.put, List.setIfInBounds_toArray, List.set_cons_zero, List.set_cons_succ, i64_w, i32_w]
              rfl
             refine pure_ (i := 3) (N := some 36) (v := ?_) (a' := ?_) #[true, true, true, true, false, false, false, false, false, false, false, false, false, false, false, false, false, false, false, false, false, false, false, false, false, false, false, false, false, false, false, false, false, false, false, false, false, false, false, false, false, false, false, false, false, false, false, false, false, false, false, false, false, false, false] rfl rfl (any_of HT_.out (by kernel_rfl)) (fun _ _ _ h => h) (Or.inl ⟨by rfl, ?_⟩) ?_ ?_
             rotate_left
             ·intro w'
              go_simp
              with_reducible rfl
             rotate_left
             ·simp only [Act.put, List.setIfInBounds_toArray, List.set_cons_zero, List.set_cons_succ, i64_w, i32_w]
              rfl
             refine pure_ (i := 4) (N := some 37) (v := ?_) (a' := ?_) #[true, true, true, true, true, false, false, false, false, false, false, false, false, false, false, false, false, false, false, false, false, false, false, false, false, false, false, false, false, false, false, false, false, false, false, false, false, false, false, false, false, false, false, false, false, false, false, false, false, false, false, false, false, false, false] rfl rfl (any_of HT_.out (by kernel_rfl)) (fun _ _ _ h => h) (Or.inl ⟨by rfl, ?_⟩) ?_ ?_
             rotate_left
             ·intro w'
              go_simp
              with_reducible rfl
             rotate_left
             ·simp only [Act.put, List.setIfInBounds_toArray, List.set_cons_zero, List.set_cons_succ, i64_w, i32_w]
              rfl
             refine pure_ (i := 5) (N := some 38) (v := ?_) (a' := ?_) #[true, true, true, true, true, true, false, false, false, false, false, false, false, false, false, false, false, false, false, false, false, false, false, false, false, false, false, false, false, false, false, false, false, false, false, false, false, false, false, false, false, false, false, false, false, false, false, false, false, false, false, false, false, false, false] rfl rfl (any_of HT_.out (by kernel_rfl)) (fun _ _ _ h => h) (Or.inl ⟨by rfl, ?_⟩) ?_ ?_
             rotate_left
             ·intro w'
              go_simp
              with_reducible rfl
             rotate_left
             ·simp only [Act.put, List.setIfInBounds_toArray, List.set_cons_zero, List.set_cons_succ, i64_w, i32_w]
              rfl
             refine pure_ (i := 6) (N := some 39) (v := ?_) (a' := ?_) #[true, true, true, true, true, true, true, false, false, false, false, false, false, false, false, false, false, false, false, false, false, false, false, false, false, false, false, false, false, false, false, false, false, false, false, false, false, false, false, false, false, false, false, false, false, false, false, false, false, false, false, false, false, false, false] rfl rfl (any_of HT_.out (by kernel_rfl)) (fun _ _ _ h => h) (Or.inl ⟨by rfl, ?_⟩) ?_ ?_
             rotate_left
             ·intro w'
              go_simp
              with_reducible rfl
             rotate_left
             ·simp only [Act.put, List.setIfInBounds_toArray, List.set_cons_zero, List.set_cons_succ, i64_w, i32_w]
              rfl
             refine pure_ (i := 7) (N := some 40) (v := ?_) (a' := ?_) #[true, true, true, true, true, true, true, true, false, false, false, false, false, false, false, false, false, false, false, false, false, false, false, false, false, false, false, false, false, false, false, false, false, false, false, false, false, false, false, false, false, false, false, false, false, false, false, false, false, false, false, false, false, false, false] rfl rfl (any_of HT_.out (by kernel_rfl)) (fun _ _ _ h => h) (Or.inl ⟨by rfl, ?_⟩) ?_ ?_
             rotate_left
             ·intro w'
              go_simp
              with_reducible rfl
             rotate_left
             ·simp only [Act.put, List.setIfInBounds_toArray, List.set_cons_zero, List.set_cons_succ, i64_w, i32_w]
              rfl
             refine pure_ (i := 8) (N := some 41) (v := ?_) (a' := ?_) #[true, true, true, true, true, true, true, true, true, false, false, false, false, false, false, false, false, false, false, false, false, false, false, false, false, false, false, false, false, false, false, false, false, false, false, false, false, false, false, false, false, false, false, false, false, false, false, false, false, false, false, false, false, false, false] rfl rfl (any_of HT_.out (by kernel_rfl)) (fun _ _ _ h => h) (Or.inl ⟨by rfl, ?_⟩) ?_ ?_
             rotate_left
             ·intro w'
              go_simp
              with_reducible rfl
             rotate_left
             ·simp only [Act.put, List.setIfInBounds_toArray, List.set_cons_zero, List.set_cons_succ, i64_w, i32_w]
              rfl
             refine pure_ (i := 9) (N := some 42) (v := ?_) (a' := ?_) #[true, true, true, true, true, true, true, true, true, true, false, false, false, false, false, false, false, false, false, false, false, false, false, false, false, false, false, false, false, false, false, false, false, false, false, false, false, false, false, false, false, false, false, false, false, false, false, false, false, false, false, false, false, false, false] rfl rfl (any_of HT_.out (by kernel_rfl)) (fun _ _ _ h => h) (Or.inl ⟨by rfl, ?_⟩) ?_ ?_
             rotate_left
             ·intro w'
              go_simp
              with_reducible rfl
             rotate_left
             ·simp only [Act.put, List.setIfInBounds_toArray, List.set_cons_zero, List.set_cons_succ, i64_w, i32_w]
              rfl
             refine pure_ (i := 10) (N := some 43) (v := ?_) (a' := ?_) #[true, true, true, true, true, true, true, true, true, true, true, false, false, false, false, false, false, false, false, false, false, false, false, false, false, false, false, false, false, false, false, false, false, false, false, false, false, false, false, false, false, false, false, false, false, false, false, false, false, false, false, false, false, false, false] rfl rfl (any_of HT_.out (by kernel_rfl)) (fun _ _ _ h => h) (Or.inl ⟨by rfl, ?_⟩) ?_ ?_
             rotate_left
             ·intro w'
              go_simp
              with_reducible rfl
             rotate_left
             ·simp only [Act.put, List.setIfInBounds_toArray, List.set_cons_zero, List.set_cons_succ, i64_w, i32_w]
              rfl
             refine pure_ (i := 11) (N := some 44) (v := ?_) (a' := ?_) #[true, true, true, true, true, true, true, true, true, true, true, true, false, false, false, false, false, false, false, false, false, false, false, false, false, false, false, false, false, false, false, false, false, false, false, false, false, false, false, false, false, false, false, false, false, false, false, false, false, false, false, false, false, false, false] rfl rfl (any_of HT_.out (by kernel_rfl)) (fun _ _ _ h => h) (Or.inl ⟨by rfl, ?_⟩) ?_ ?_
             rotate_left
             ·intro w'
              go_simp
              with_reducible rfl
             rotate_left
             ·simp only [Act.put, List.setIfInBounds_toArray, List.set_cons_zero, List.set_cons_succ, i64_w, i32_w]
              rfl
             refine pure_ (i := 12) (N := some 45) (v := ?_) (a' := ?_) #[true, true, true, true, true, true, true, true, true, true, true, true, true, false, false, false, false, false, false, false, false, false, false, false, false, false, false, false, false, false, false, false, false, false, false, false, false, false, false, false, false, false, false, false, false, false, false, false, false, false, false, false, false, false, false] rfl rfl (any_of HT_.out (by kernel_rfl)) (fun _ _ _ h => h) (Or.inl ⟨by rfl, ?_⟩) ?_ ?_
             rotate_left
             ·intro w'
              go_simp
              with_reducible rfl
             rotate_left
             ·simp only [Act.put, List.setIfInBounds_toArray, List.set_cons_zero, List.set_cons_succ, i64_w, i32_w]
              rfl
             refine pure_ (i := 13) (N := some 46) (v := ?_) (a' := ?_) #[true, true, true, true, true, true, true, true, true, true, true, true, true, true, false, false, false, false, false, false, false, false, false, false, false, false, false, false, false, false, false, false, false, false, false, false, false, false, false, false, false, false, false, false, false, false, false, false, false, false, false, false, false, false, false] rfl rfl (any_of HT_.out (by kernel_rfl)) (fun _ _ _ h => h) (Or.inl ⟨by rfl, ?_⟩) ?_ ?_
             rotate_left
             ·intro w'
              go_simp
              with_reducible rfl
             rotate_left
             ·simp only [Act.put, List.setIfInBounds_toArray, List.set_cons_zero, List.set_cons_succ, i64_w, i32_w]
              rfl
             refine pure_ (i := 14) (N := some 47) (v := ?_) (a' := ?_) #[true, true, true, true, true, true, true, true, true, true, true, true, true, true, true, false, false, false, false, false, false, false, false, false, false, false, false, false, false, false, false, false, false, false, false, false, false, false, false, false, false, false, false, false, false, false, false, false, false, false, false, false, false, false, false] rfl rfl (any_of HT_.out (by kernel_rfl)) (fun _ _ _ h => h) (Or.inl ⟨by rfl, ?_⟩) ?_ ?_
             rotate_left
             ·intro w'
              go_simp
              with_reducible rfl
             rotate_left
             ·simp only [Act.put, List.setIfInBounds_toArray, List.set_cons_zero, List.set_cons_succ, i64_w, i32_w]
              rfl
             refine pure_ (i := 15) (N := some 48) (v := ?_) (a' := ?_) #[true, true, true, true, true, true, true, true, true, true, true, true, true, true, true, true, false, false, false, false, false, false, false, false, false, false, false, false, false, false, false, false, false, false, false, false, false, false, false, false, false, false, false, false, false, false, false, false, false, false, false, false, false, false, false] rfl rfl (any_of HT_.out (by kernel_rfl)) (fun _ _ _ h => h) (Or.inl ⟨by rfl, ?_⟩) ?_ ?_
             rotate_left
             ·intro w'
              go_simp
              with_reducible rfl
             rotate_left
             ·simp only [Act.put, List.setIfInBounds_toArray, List.set_cons_zero, List.set_cons_succ, i64_w, i32_w]
              rfl
             refine take_ (i := 16) (N := some 49) (v := ?_) (a' := ?_) #[true, true, true, true, true, true, true, true, true, true, true, true, true, true, true, true, true, false, false, false, false, false, false, false, false, false, false, false, false, false, false, false, false, false, false, false, false, false, false, false, false, false, false, false, false, false, false, false, false, false, false, false, false, false, false] rfl rfl (take_ofW HT_.out HW_.out (by kernel_rfl)) (fun _ _ _ h => h) (Or.inl ⟨by rfl, ?_⟩) hHeld ?_ ?_
             rotate_left
             ·rintro w' ⟨s0, s1, s2, s3, s4, s5, s6, s7, s8, s9⟩
              go_simp
              with_reducible rfl
             rotate_left
             ·simp only [Act.put, List.setIfInBounds_toArray, List.set_cons_zero, List.set_cons_succ, i64_w, i32_w]
              rfl
             refine one_ (i := 17) (N := some 50) #[true, true, true, true, true, true, true, true, true, true, true, true, true, true, true, true, true, true, false, false, false, false, false, false, false, false, false, false, false, false, false, false, false, false, false, false, false, false, false, false, false, false, false, false, false, false, false, false, false, false, false, false, false, false, false] rfl rfl (one_of HT_.out (by kernel_rfl)) (by decide) (fun K hK => ?_)
             refine goes_ Try.func42 (by kernel_rfl) rfl #[] (by rfl) rfl rfl (by (try simp only [List.map_toArray, List.map_cons, List.map_nil]); first | done | rfl | (simp only [List.length_drop, List.length_take]; rfl)) ?_
             with_reducible refine (cellaretlaw4_one.calls  t234 t235 t236 t237 t238 _ A12.out).mono ?_
             rintro e w41 ⟨rfl, hb⟩
             have HS5_ := (hb.cell (World.block_lt_of_cell? _ _ (hHeld.2.2.2.2.2.1))).trans (hHeld.2.2.2.2.2.1)
             have HS6_ := (hb.cell (World.block_lt_of_cell? _ _ (hHeld.2.2.2.2.2.2.1))).trans (hHeld.2.2.2.2.2.2.1)
             have HS7_ := (hb.cell (World.block_lt_of_cell? _ _ (hHeld.2.2.2.2.2.2.2.1))).trans (hHeld.2.2.2.2.2.2.2.1)
             have HS8_ := (hb.cell (World.block_lt_of_cell? _ _ (hHeld.2.2.2.2.2.2.2.2.1))).trans (hHeld.2.2.2.2.2.2.2.2.1)
             have HS9_ := (hb.cell (World.block_lt_of_cell? _ _ (hHeld.2.2.2.2.2.2.2.2.2))).trans (hHeld.2.2.2.2.2.2.2.2.2)
             refine ⟨_, rfl, ?_⟩
             have n0_ := Aside0.mk (Kd.R_below (by (with_reducible repeat (first | apply Kd.R_alloc | apply Kd.R_drewN | apply Kd.R_drew)); exact HO203.out) hb)
             have n1_ := Aside0.mk (Kd.R_below (by (with_reducible repeat (first | apply Kd.R_alloc | apply Kd.R_drewN | apply Kd.R_drew)); exact HO225.out) hb)
             have n2_ := Aside0.mk (Kd.R_below (by (with_reducible repeat (first | apply Kd.R_alloc | apply Kd.R_drewN | apply Kd.R_drew)); exact HO229.out) hb)
             have n3_ := Aside0.mk (Kd.R_below (by (with_reducible repeat (first | apply Kd.R_alloc | apply Kd.R_drewN | apply Kd.R_drew)); exact HO232.out) hb)
             have n4_ := Aside0.mk (blk_below (g := gb212) (o := .cells #[.string t205, .string t206, .int .u32 t207, .int .i64 t208, .int .u64 t209] 54 (0, 0)) (by (with_reducible repeat (first | refine blk_drewN ?_ _ | refine blk_drew ?_ | refine blk_alloc ?_ _)); exact BK212.out) hb)
             have n5_ := Aside0.mk (below_step (by repeat (first | (with_reducible first | exact HB.out | apply below_alloc | apply pw_below_drewN | apply below_drew1 | refine below_set ?_ GE212.out) | exact HB.out)) hb)
             clear HO203
             clear HO225
             clear HO229
             clear HO232
             clear BK212
             clear HB
             have HO203 := n0_
             have HO225 := n1_
             have HO229 := n2_
             have HO232 := n3_
             have BK212 := n4_
             have HB := n5_
             clear n0_ n1_ n2_ n3_ n4_ n5_
             (try clear hb)
             (try clear hb2)
             (try clear hk)
             (try clear hi)
             refine hK.out _ _ ⟨(blk_cell BK212.out 0).trans rfl, (blk_cell BK212.out 1).trans rfl, (blk_cell BK212.out 2).trans rfl, (blk_cell BK212.out 3).trans rfl, (blk_cell BK212.out 4).trans rfl, HS5_, HS6_, HS7_, HS8_, HS9_⟩ (fun hHeld => ?_)
             clear hK K
             refine norm_ (a' := ?_) ?_ ?_
             rotate_left
             ·show Act.put _ (some 50) _ = _
              simp only [Act.put, List.setIfInBounds_toArray, List.set_cons_zero, List.set_cons_succ, i64_w, i32_w]
              rfl
             refine pure_ (i := 18) (N := some 51) (v := ?_) (a' := ?_) #[true, true, true, true, true, true, true, true, true, true, true, true, true, true, true, true, true, true, true, false, false, false, false, false, false, false, false, false, false, false, false, false, false, false, false, false, false, false, false, false, false, false, false, false, false, false, false, false, false, false, false, false, false, false, false] rfl rfl (any_of HT_.out (by kernel_rfl)) (fun _ _ _ h => h) (Or.inl ⟨by rfl, ?_⟩) ?_ ?_
             rotate_left
             ·intro w'
              go_simp
              with_reducible rfl
             rotate_left
             ·simp only [Act.put, List.setIfInBounds_toArray, List.set_cons_zero, List.set_cons_succ, i64_w, i32_w]
              rfl
             refine pure_ (i := 19) (N := some 52) (v := ?_) (a' := ?_) #[true, true, true, true, true, true, true, true, true, true, true, true, true, true, true, true, true, true, true, true, false, false, false, false, false, false, false, false, false, false, false, false, false, false, false, false, false, false, false, false, false, false, false, false, false, false, false, false, false, false, false, false, false, false, false] rfl rfl (any_of HT_.out (by kernel_rfl)) (fun _ _ _ h => h) (Or.inl ⟨by rfl, ?_⟩) ?_ ?_
             rotate_left
             ·intro w'
              go_simp
              with_reducible rfl
             rotate_left
             ·simp only [Act.put, List.setIfInBounds_toArray, List.set_cons_zero, List.set_cons_succ, i64_w, i32_w]
              rfl
             refine pure_ (i := 20) (N := some 53) (v := ?_) (a' := ?_) #[true, true, true, true, true, true, true, true, true, true, true, true, true, true, true, true, true, true, true, true, true, false, false, false, false, false, false, false, false, false, false, false, false, false, false, false, false, false, false, false, false, false, false, false, false, false, false, false, false, false, false, false, false, false, false] rfl rfl (any_of HT_.out (by kernel_rfl)) (fun _ _ _ h => h) (Or.inl ⟨by rfl, ?_⟩) ?_ ?_
             rotate_left
             ·intro w'
              go_simp
              with_reducible rfl
             rotate_left
             ·simp only [Act.put, List.setIfInBounds_toArray, List.set_cons_zero, List.set_cons_succ, i64_w, i32_w]
              rfl
             refine pure_ (i := 21) (N := some 54) (v := ?_) (a' := ?_) #[true, true, true, true, true, true, true, true, true, true, true, true, true, true, true, true, true, true, true, true, true, true, false, false, false, false, false, false, false, false, false, false, false, false, false, false, false, false, false, false, false, false, false, false, false, false, false, false, false, false, false, false, false, false, false] rfl rfl (any_of HT_.out (by kernel_rfl)) (fun _ _ _ h => h) (Or.inl ⟨by rfl, ?_⟩) ?_ ?_
             rotate_left
             ·intro w'
              go_simp
              with_reducible rfl
             rotate_left
             ·simp only [Act.put, List.setIfInBounds_toArray, List.set_cons_zero, List.set_cons_succ, i64_w, i32_w]
              rfl
             refine pure_ (i := 22) (N := some 55) (v := ?_) (a' := ?_) #[true, true, true, true, true, true, true, true, true, true, true, true, true, true, true, true, true, true, true, true, true, true, true, false, false, false, false, false, false, false, false, false, false, false, false, false, false, false, false, false, false, false, false, false, false, false, false, false, false, false, false, false, false, false, false] rfl rfl (any_of HT_.out (by kernel_rfl)) (fun _ _ _ h => h) (Or.inl ⟨by rfl, ?_⟩) ?_ ?_
             rotate_left
             ·intro w'
              go_simp
              with_reducible rfl
             rotate_left
             ·simp only [Act.put, List.setIfInBounds_toArray, List.set_cons_zero, List.set_cons_succ, i64_w, i32_w]
              rfl
             refine pure_ (i := 23) (N := some 56) (v := ?_) (a' := ?_) #[true, true, true, true, true, true, true, true, true, true, true, true, true, true, true, true, true, true, true, true, true, true, true, true, false, false, false, false, false, false, false, false, false, false, false, false, false, false, false, false, false, false, false, false, false, false, false, false, false, false, false, false, false, false, false] rfl rfl (any_of HT_.out (by kernel_rfl)) (fun _ _ _ h => h) (Or.inl ⟨by rfl, ?_⟩) ?_ ?_
             rotate_left
             ·intro w'
              go_simp
              with_reducible rfl
             rotate_left
             ·simp only [Act.put, List.setIfInBounds_toArray, List.set_cons_zero, List.set_cons_succ, i64_w, i32_w]
              rfl
             refine pure_ (i := 24) (N := some 57) (v := ?_) (a' := ?_) #[true, true, true, true, true, true, true, true, true, true, true, true, true, true, true, true, true, true, true, true, true, true, true, true, true, false, false, false, false, false, false, false, false, false, false, false, false, false, false, false, false, false, false, false, false, false, false, false, false, false, false, false, false, false, false] rfl rfl (any_of HT_.out (by kernel_rfl)) (fun _ _ _ h => h) (Or.inl ⟨by rfl, ?_⟩) ?_ ?_
             rotate_left
             ·intro w'
              go_simp
              with_reducible rfl
             rotate_left
             ·simp only [Act.put, List.setIfInBounds_toArray, List.set_cons_zero, List.set_cons_succ, i64_w, i32_w]
              rfl
             refine pure_ (i := 25) (N := some 58) (v := ?_) (a' := ?_) #[true, true, true, true, true, true, true, true, true, true, true, true, true, true, true, true, true, true, true, true, true, true, true, true, true, true, false, false, false, false, false, false, false, false, false, false, false, false, false, false, false, false, false, false, false, false, false, false, false, false, false, false, false, false, false] rfl rfl (any_of HT_.out (by kernel_rfl)) (fun _ _ _ h => h) (Or.inl ⟨by rfl, ?_⟩) ?_ ?_
             rotate_left
             ·intro w'
              go_simp
              with_reducible rfl
             rotate_left
             ·simp only [Act.put, List.setIfInBounds_toArray, List.set_cons_zero, List.set_cons_succ, i64_w, i32_w]
              rfl
             refine pure_ (i := 26) (N := some 59) (v := ?_) (a' := ?_) #[true, true, true, true, true, true, true, true, true, true, true, true, true, true, true, true, true, true, true, true, true, true, true, true, true, true, true, false, false, false, false, false, false, false, false, false, false, false, false, false, false, false, false, false, false, false, false, false, false, false, false, false, false, false, false] rfl rfl (any_of HT_.out (by kernel_rfl)) (fun _ _ _ h => h) (Or.inl ⟨by rfl, ?_⟩) ?_ ?_
             rotate_left
             ·intro w'
              go_simp
              with_reducible rfl
             rotate_left
             ·simp only [Act.put, List.setIfInBounds_toArray, List.set_cons_zero, List.set_cons_succ, i64_w, i32_w]
              rfl
             refine pure_ (i := 27) (N := some 60) (v := ?_) (a' := ?_) #[true, true, true, true, true, true, true, true, true, true, true, true, true, true, true, true, true, true, true, true, true, true, true, true, true, true, true, true, false, false, false, false, false, false, false, false, false, false, false, false, false, false, false, false, false, false, false, false, false, false, false, false, false, false, false] rfl rfl (any_of HT_.out (by kernel_rfl)) (fun _ _ _ h => h) (Or.inl ⟨by rfl, ?_⟩) ?_ ?_
             rotate_left
             ·intro w'
              go_simp
              with_reducible rfl
             rotate_left
             ·simp only [Act.put, List.setIfInBounds_toArray, List.set_cons_zero, List.set_cons_succ, i64_w, i32_w]
              rfl
             refine pure_ (i := 28) (N := some 61) (v := ?_) (a' := ?_) #[true, true, true, true, true, true, true, true, true, true, true, true, true, true, true, true, true, true, true, true, true, true, true, true, true, true, true, true, true, false, false, false, false, false, false, false, false, false, false, false, false, false, false, false, false, false, false, false, false, false, false, false, false, false, false] rfl rfl (any_of HT_.out (by kernel_rfl)) (fun _ _ _ h => h) (Or.inl ⟨by rfl, ?_⟩) ?_ ?_
             rotate_left
             ·intro w'
              go_simp
              with_reducible rfl
             rotate_left
             ·simp only [Act.put, List.setIfInBounds_toArray, List.set_cons_zero, List.set_cons_succ, i64_w, i32_w]
              rfl
             refine pure_ (i := 29) (N := some 62) (v := ?_) (a' := ?_) #[true, true, true, true, true, true, true, true, true, true, true, true, true, true, true, true, true, true, true, true, true, true, true, true, true, true, true, true, true, true, false, false, false, false, false, false, false, false, false, false, false, false, false, false, false, false, false, false, false, false, false, false, false, false, false] rfl rfl (any_of HT_.out (by kernel_rfl)) (fun _ _ _ h => h) (Or.inl ⟨by rfl, ?_⟩) ?_ ?_
             rotate_left
             ·intro w'
              go_simp
              with_reducible rfl
             rotate_left
             ·simp only [Act.put, List.setIfInBounds_toArray, List.set_cons_zero, List.set_cons_succ, i64_w, i32_w]
              rfl
             refine pure_ (i := 30) (N := some 63) (v := ?_) (a' := ?_) #[true, true, true, true, true, true, true, true, true, true, true, true, true, true, true, true, true, true, true, true, true, true, true, true, true, true, true, true, true, true, true, false, false, false, false, false, false, false, false, false, false, false, false, false, false, false, false, false, false, false, false, false, false, false, false] rfl rfl (any_of HT_.out (by kernel_rfl)) (fun _ _ _ h => h) (Or.inl ⟨by rfl, ?_⟩) ?_ ?_
             rotate_left
             ·intro w'
              go_simp
              with_reducible rfl
             rotate_left
             ·simp only [Act.put, List.setIfInBounds_toArray, List.set_cons_zero, List.set_cons_succ, i64_w, i32_w]
              rfl
             refine pure_ (i := 31) (N := some 64) (v := ?_) (a' := ?_) #[true, true, true, true, true, true, true, true, true, true, true, true, true, true, true, true, true, true, true, true, true, true, true, true, true, true, true, true, true, true, true, true, false, false, false, false, false, false, false, false, false, false, false, false, false, false, false, false, false, false, false, false, false, false, false] rfl rfl (any_of HT_.out (by kernel_rfl)) (fun _ _ _ h => h) (Or.inl ⟨by rfl, ?_⟩) ?_ ?_
             rotate_left
             ·intro w'
              go_simp
              with_reducible rfl
             rotate_left
             ·simp only [Act.put, List.setIfInBounds_toArray, List.set_cons_zero, List.set_cons_succ, i64_w, i32_w]
              rfl
             refine pure_ (i := 32) (N := some 65) (v := ?_) (a' := ?_) #[true, true, true, true, true, true, true, true, true, true, true, true, true, true, true, true, true, true, true, true, true, true, true, true, true, true, true, true, true, true, true, true, true, false, false, false, false, false, false, false, false, false, false, false, false, false, false, false, false, false, false, false, false, false, false] rfl rfl (any_of HT_.out (by kernel_rfl)) (fun _ _ _ h => h) (Or.inl ⟨by rfl, ?_⟩) ?_ ?_
             rotate_left
             ·intro w'
              go_simp
              with_reducible rfl
             rotate_left
             ·simp only [Act.put, List.setIfInBounds_toArray, List.set_cons_zero, List.set_cons_succ, i64_w, i32_w]
              rfl
             refine pure_ (i := 33) (N := some 66) (v := ?_) (a' := ?_) #[true, true, true, true, true, true, true, true, true, true, true, true, true, true, true, true, true, true, true, true, true, true, true, true, true, true, true, true, true, true, true, true, true, true, false, false, false, false, false, false, false, false, false, false, false, false, false, false, false, false, false, false, false, false, false] rfl rfl (any_of HT_.out (by kernel_rfl)) (fun _ _ _ h => h) (Or.inl ⟨by rfl, ?_⟩) ?_ ?_
             rotate_left
             ·intro w'
              go_simp
              with_reducible rfl
             rotate_left
             ·simp only [Act.put, List.setIfInBounds_toArray, List.set_cons_zero, List.set_cons_succ, i64_w, i32_w]
              rfl
             refine pure_ (i := 34) (N := some 67) (v := ?_) (a' := ?_) #[true, true, true, true, true, true, true, true, true, true, true, true, true, true, true, true, true, true, true, true, true, true, true, true, true, true, true, true, true, true, true, true, true, true, true, false, false, false, false, false, false, false, false, false, false, false, false, false, false, false, false, false, false, false, false] rfl rfl (any_of HT_.out (by kernel_rfl)) (fun _ _ _ h => h) (Or.inl ⟨by rfl, ?_⟩) ?_ ?_
             rotate_left
             ·intro w'
              go_simp
              with_reducible rfl
             rotate_left
             ·simp only [Act.put, List.setIfInBounds_toArray, List.set_cons_zero, List.set_cons_succ, i64_w, i32_w]
              rfl
             refine pure_ (i := 35) (N := some 68) (v := ?_) (a' := ?_) #[true, true, true, true, true, true, true, true, true, true, true, true, true, true, true, true, true, true, true, true, true, true, true, true, true, true, true, true, true, true, true, true, true, true, true, true, false, false, false, false, false, false, false, false, false, false, false, false, false, false, false, false, false, false, false] rfl rfl (any_of HT_.out (by kernel_rfl)) (fun _ _ _ h => h) (Or.inl ⟨by rfl, ?_⟩) ?_ ?_
             rotate_left
             ·intro w'
              go_simp
              with_reducible rfl
             rotate_left
             ·simp only [Act.put, List.setIfInBounds_toArray, List.set_cons_zero, List.set_cons_succ, i64_w, i32_w]
              rfl
             refine pure_ (i := 36) (N := some 69) (v := ?_) (a' := ?_) #[true, true, true, true, true, true, true, true, true, true, true, true, true, true, true, true, true, true, true, true, true, true, true, true, true, true, true, true, true, true, true, true, true, true, true, true, true, false, false, false, false, false, false, false, false, false, false, false, false, false, false, false, false, false, false] rfl rfl (any_of HT_.out (by kernel_rfl)) (fun _ _ _ h => h) (Or.inl ⟨by rfl, ?_⟩) ?_ ?_
             rotate_left
             ·intro w'
              go_simp
              with_reducible rfl
             rotate_left
             ·simp only [Act.put, List.setIfInBounds_toArray, List.set_cons_zero, List.set_cons_succ, i64_w, i32_w]
              rfl
             refine pure_ (i := 37) (N := some 70) (v := ?_) (a' := ?_) #[true, true, true, true, true, true, true, true, true, true, true, true, true, true, true, true, true, true, true, true, true, true, true, true, true, true, true, true, true, true, true, true, true, true, true, true, true, true, false, false, false, false, false, false, false, false, false, false, false, false, false, false, false, false, false] rfl rfl (any_of HT_.out (by kernel_rfl)) (fun _ _ _ h => h) (Or.inl ⟨by rfl, ?_⟩) ?_ ?_
             rotate_left
             ·intro w'
              go_simp
              with_reducible rfl
             rotate_left
             ·simp only [Act.put, List.setIfInBounds_toArray, List.set_cons_zero, List.set_cons_succ, i64_w, i32_w]
              rfl
             refine pure_ (i := 38) (N := some 71) (v := ?_) (a' := ?_) #[true, true, true, true, true, true, true, true, true, true, true, true, true, true, true, true, true, true, true, true, true, true, true, true, true, true, true, true, true, true, true, true, true, true, true, true, true, true, true, false, false, false, false, false, false, false, false, false, false, false, false, false, false, false, false] rfl rfl (any_of HT_.out (by kernel_rfl)) (fun _ _ _ h => h) (Or.inl ⟨by rfl, ?_⟩) ?_ ?_
             rotate_left
             ·intro w'
              go_simp
              with_reducible rfl
             rotate_left
             ·simp only [Act.put, List.setIfInBounds_toArray, List.set_cons_zero, List.set_cons_succ, i64_w, i32_w]
              rfl
             refine pure_ (i := 39) (N := some 72) (v := ?_) (a' := ?_) #[true, true, true, true, true, true, true, true, true, true, true, true, true, true, true, true, true, true, true, true, true, true, true, true, true, true, true, true, true, true, true, true, true, true, true, true, true, true, true, true, false, false, false, false, false, false, false, false, false, false, false, false, false, false, false] rfl rfl (any_of HT_.out (by kernel_rfl)) (fun _ _ _ h => h) (Or.inl ⟨by rfl, ?_⟩) ?_ ?_
             rotate_left
             ·intro w'
              go_simp
              with_reducible rfl
             rotate_left
             ·simp only [Act.put, List.setIfInBounds_toArray, List.set_cons_zero, List.set_cons_succ, i64_w, i32_w]
              rfl
             refine pure_ (i := 40) (N := some 73) (v := ?_) (a' := ?_) #[true, true, true, true, true, true, true, true, true, true, true, true, true, true, true, true, true, true, true, true, true, true, true, true, true, true, true, true, true, true, true, true, true, true, true, true, true, true, true, true, true, false, false, false, false, false, false, false, false, false, false, false, false, false, false] rfl rfl (any_of HT_.out (by kernel_rfl)) (fun _ _ _ h => h) (Or.inl ⟨by rfl, ?_⟩) ?_ ?_
             rotate_left
             ·intro w'
              go_simp
              with_reducible rfl
             rotate_left
             ·simp only [Act.put, List.setIfInBounds_toArray, List.set_cons_zero, List.set_cons_succ, i64_w, i32_w]
              rfl
             refine take_ (i := 41) (N := some 74) (v := ?_) (a' := ?_) #[true, true, true, true, true, true, true, true, true, true, true, true, true, true, true, true, true, true, true, true, true, true, true, true, true, true, true, true, true, true, true, true, true, true, true, true, true, true, true, true, true, true, false, false, false, false, false, false, false, false, false, false, false, false, false] rfl rfl (take_ofW HT_.out HW_.out (by kernel_rfl)) (fun _ _ _ h => h) (Or.inl ⟨by rfl, ?_⟩) hHeld ?_ ?_
             rotate_left
             ·rintro w' ⟨s0, s1, s2, s3, s4, s5, s6, s7, s8, s9⟩
              go_simp
              with_reducible rfl
             rotate_left
             ·simp only [Act.put, List.setIfInBounds_toArray, List.set_cons_zero, List.set_cons_succ, i64_w, i32_w]
              rfl
             refine one_ (i := 42) (N := some 75) #[true, true, true, true, true, true, true, true, true, true, true, true, true, true, true, true, true, true, true, true, true, true, true, true, true, true, true, true, true, true, true, true, true, true, true, true, true, true, true, true, true, true, true, false, false, false, false, false, false, false, false, false, false, false, false] rfl rfl (one_of HT_.out (by kernel_rfl)) (by decide) (fun K hK => ?_)
             refine goes_ Try.func42 (by kernel_rfl) rfl #[] (by rfl) rfl rfl (by (try simp only [List.map_toArray, List.map_cons, List.map_nil]); first | done | rfl | (simp only [List.length_drop, List.length_take]; rfl)) ?_
             with_reducible refine (cellaretlaw4_one.calls  t240 t241 t242 t243 t244 _ A19.out).mono ?_
             rintro e w43 ⟨rfl, hb⟩
             have HS5_ := (hb.cell (World.block_lt_of_cell? _ _ (hHeld.2.2.2.2.2.1))).trans (hHeld.2.2.2.2.2.1)
             have HS6_ := (hb.cell (World.block_lt_of_cell? _ _ (hHeld.2.2.2.2.2.2.1))).trans (hHeld.2.2.2.2.2.2.1)
             have HS7_ := (hb.cell (World.block_lt_of_cell? _ _ (hHeld.2.2.2.2.2.2.2.1))).trans (hHeld.2.2.2.2.2.2.2.1)
             have HS8_ := (hb.cell (World.block_lt_of_cell? _ _ (hHeld.2.2.2.2.2.2.2.2.1))).trans (hHeld.2.2.2.2.2.2.2.2.1)
             have HS9_ := (hb.cell (World.block_lt_of_cell? _ _ (hHeld.2.2.2.2.2.2.2.2.2))).trans (hHeld.2.2.2.2.2.2.2.2.2)
             refine ⟨_, rfl, ?_⟩
             have n0_ := Aside0.mk (Kd.R_below (by (with_reducible repeat (first | apply Kd.R_alloc | apply Kd.R_drewN | apply Kd.R_drew)); exact HO203.out) hb)
             have n1_ := Aside0.mk (Kd.R_below (by (with_reducible repeat (first | apply Kd.R_alloc | apply Kd.R_drewN | apply Kd.R_drew)); exact HO225.out) hb)
             have n2_ := Aside0.mk (Kd.R_below (by (with_reducible repeat (first | apply Kd.R_alloc | apply Kd.R_drewN | apply Kd.R_drew)); exact HO229.out) hb)
             have n3_ := Aside0.mk (Kd.R_below (by (with_reducible repeat (first | apply Kd.R_alloc | apply Kd.R_drewN | apply Kd.R_drew)); exact HO232.out) hb)
             have n4_ := Aside0.mk (blk_below (g := gb212) (o := .cells #[.string t205, .string t206, .int .u32 t207, .int .i64 t208, .int .u64 t209] 54 (0, 0)) (by (with_reducible repeat (first | refine blk_drewN ?_ _ | refine blk_drew ?_ | refine blk_alloc ?_ _)); exact BK212.out) hb)
             have n5_ := Aside0.mk (below_step (by repeat (first | (with_reducible first | exact HB.out | apply below_alloc | apply pw_below_drewN | apply below_drew1 | refine below_set ?_ GE212.out) | exact HB.out)) hb)
             clear HO203
             clear HO225
             clear HO229
             clear HO232
             clear BK212
             clear HB
             have HO203 := n0_
             have HO225 := n1_
             have HO229 := n2_
             have HO232 := n3_
             have BK212 := n4_
             have HB := n5_
             clear n0_ n1_ n2_ n3_ n4_ n5_
             (try clear hb)
             (try clear hb2)
             (try clear hk)
             (try clear hi)
             refine hK.out _ _ ⟨(blk_cell BK212.out 0).trans rfl, (blk_cell BK212.out 1).trans rfl, (blk_cell BK212.out 2).trans rfl, (blk_cell BK212.out 3).trans rfl, (blk_cell BK212.out 4).trans rfl, HS5_, HS6_, HS7_, HS8_, HS9_⟩ (fun hHeld => ?_)
             clear hK K
             refine norm_ (a' := ?_) ?_ ?_
             rotate_left
             ·show Act.put _ (some 75) _ = _
              simp only [Act.put, List.setIfInBounds_toArray, List.set_cons_zero, List.set_cons_succ, i64_w, i32_w]
              rfl
             refine pure_ (i := 43) (N := some 76) (v := ?_) (a' := ?_) #[true, true, true, true, true, true, true, true, true, true, true, true, true, true, true, true, true, true, true, true, true, true, true, true, true, true, true, true, true, true, true, true, true, true, true, true, true, true, true, true, true, true, true, true, false, false, false, false, false, false, false, false, false, false, false] rfl rfl (any_of HT_.out (by kernel_rfl)) (fun _ _ _ h => h) (Or.inl ⟨by rfl, ?_⟩) ?_ ?_
             rotate_left
             ·intro w'
              go_simp
              with_reducible rfl
             rotate_left
             ·simp only [Act.put, List.setIfInBounds_toArray, List.set_cons_zero, List.set_cons_succ, i64_w, i32_w]
              rfl
             refine pure_ (i := 44) (N := some 77) (v := ?_) (a' := ?_) #[true, true, true, true, true, true, true, true, true, true, true, true, true, true, true, true, true, true, true, true, true, true, true, true, true, true, true, true, true, true, true, true, true, true, true, true, true, true, true, true, true, true, true, true, true, false, false, false, false, false, false, false, false, false, false] rfl rfl (any_of HT_.out (by kernel_rfl)) (fun _ _ _ h => h) (Or.inl ⟨by rfl, ?_⟩) ?_ ?_
             rotate_left
             ·intro w'
              go_simp
              with_reducible rfl
             rotate_left
             ·simp only [Act.put, List.setIfInBounds_toArray, List.set_cons_zero, List.set_cons_succ, i64_w, i32_w]
              rfl
             refine pure_ (i := 45) (N := some 78) (v := ?_) (a' := ?_) #[true, true, true, true, true, true, true, true, true, true, true, true, true, true, true, true, true, true, true, true, true, true, true, true, true, true, true, true, true, true, true, true, true, true, true, true, true, true, true, true, true, true, true, true, true, true, false, false, false, false, false, false, false, false, false] rfl rfl (any_of HT_.out (by kernel_rfl)) (fun _ _ _ h => h) (Or.inl ⟨by rfl, ?_⟩) ?_ ?_
             rotate_left
             ·intro w'
              go_simp
              with_reducible rfl
             rotate_left
             ·simp only [Act.put, List.setIfInBounds_toArray, List.set_cons_zero, List.set_cons_succ, i64_w, i32_w]
              rfl
             refine one_ (i := 46) (N := some 79) #[true, true, true, true, true, true, true, true, true, true, true, true, true, true, true, true, true, true, true, true, true, true, true, true, true, true, true, true, true, true, true, true, true, true, true, true, true, true, true, true, true, true, true, true, true, true, true, false, false, false, false, false, false, false, false] rfl rfl (one_of HT_.out (by kernel_rfl)) (by decide) (fun K hK => ?_)
             refine goes_ Try.func42 (by kernel_rfl) rfl #[] (by rfl) rfl rfl (by (try simp only [List.map_toArray, List.map_cons, List.map_nil]); first | done | rfl | (simp only [List.length_drop, List.length_take]; rfl)) ?_
             with_reducible refine (cellaretlaw4_one.calls  t245 t246 t247 t248 t249 _ A21.out).mono ?_
             rintro e w44 ⟨rfl, hb⟩
             have HS5_ := (hb.cell (World.block_lt_of_cell? _ _ (hHeld.2.2.2.2.2.1))).trans (hHeld.2.2.2.2.2.1)
             have HS6_ := (hb.cell (World.block_lt_of_cell? _ _ (hHeld.2.2.2.2.2.2.1))).trans (hHeld.2.2.2.2.2.2.1)
             have HS7_ := (hb.cell (World.block_lt_of_cell? _ _ (hHeld.2.2.2.2.2.2.2.1))).trans (hHeld.2.2.2.2.2.2.2.1)
             have HS8_ := (hb.cell (World.block_lt_of_cell? _ _ (hHeld.2.2.2.2.2.2.2.2.1))).trans (hHeld.2.2.2.2.2.2.2.2.1)
             have HS9_ := (hb.cell (World.block_lt_of_cell? _ _ (hHeld.2.2.2.2.2.2.2.2.2))).trans (hHeld.2.2.2.2.2.2.2.2.2)
             refine ⟨_, rfl, ?_⟩
             have n0_ := Aside0.mk (Kd.R_below (by (with_reducible repeat (first | apply Kd.R_alloc | apply Kd.R_drewN | apply Kd.R_drew)); exact HO203.out) hb)
             have n1_ := Aside0.mk (Kd.R_below (by (with_reducible repeat (first | apply Kd.R_alloc | apply Kd.R_drewN | apply Kd.R_drew)); exact HO225.out) hb)
             have n2_ := Aside0.mk (Kd.R_below (by (with_reducible repeat (first | apply Kd.R_alloc | apply Kd.R_drewN | apply Kd.R_drew)); exact HO229.out) hb)
             have n3_ := Aside0.mk (Kd.R_below (by (with_reducible repeat (first | apply Kd.R_alloc | apply Kd.R_drewN | apply Kd.R_drew)); exact HO232.out) hb)
             have n4_ := Aside0.mk (blk_below (g := gb212) (o := .cells #[.string t205, .string t206, .int .u32 t207, .int .i64 t208, .int .u64 t209] 54 (0, 0)) (by (with_reducible repeat (first | refine blk_drewN ?_ _ | refine blk_drew ?_ | refine blk_alloc ?_ _)); exact BK212.out) hb)
             have n5_ := Aside0.mk (below_step (by repeat (first | (with_reducible first | exact HB.out | apply below_alloc | apply pw_below_drewN | apply below_drew1 | refine below_set ?_ GE212.out) | exact HB.out)) hb)
             clear HO203
             clear HO225
             clear HO229
             clear HO232
             clear BK212
             clear HB
             have HO203 := n0_
             have HO225 := n1_
             have HO229 := n2_
             have HO232 := n3_
             have BK212 := n4_
             have HB := n5_
             clear n0_ n1_ n2_ n3_ n4_ n5_
             (try clear hb)
             (try clear hb2)
             (try clear hk)
             (try clear hi)
             refine hK.out _ _ ⟨(blk_cell BK212.out 0).trans rfl, (blk_cell BK212.out 1).trans rfl, (blk_cell BK212.out 2).trans rfl, (blk_cell BK212.out 3).trans rfl, (blk_cell BK212.out 4).trans rfl, HS5_, HS6_, HS7_, HS8_, HS9_⟩ (fun hHeld => ?_)
             clear hK K
             refine norm_ (a' := ?_) ?_ ?_
             rotate_left
             ·show Act.put _ (some 79) _ = _
              simp only [Act.put, List.setIfInBounds_toArray, List.set_cons_zero, List.set_cons_succ, i64_w, i32_w]
              rfl
             refine one_ (i := 47) (N := some 80) #[true, true, true, true, true, true, true, true, true, true, true, true, true, true, true, true, true, true, true, true, true, true, true, true, true, true, true, true, true, true, true, true, true, true, true, true, true, true, true, true, true, true, true, true, true, true, true, true, false, false, false, false, false, false, false] rfl rfl (one_of HT_.out (by kernel_rfl)) (by decide) (fun K hK => ?_)
             refine goes_ Try.func44 (by kernel_rfl) rfl #[.agg #[.string t245, .string t246, .int .u32 t247, .int .i64 t248, .int .u64 t249]] (by rfl) rfl rfl (by (try simp only [List.map_toArray, List.map_cons, List.map_nil]); first | done | rfl | (simp only [List.length_drop, List.length_take]; rfl)) ?_
             with_reducible refine (rec_Good.calls t245 t246 t247 t248 t249 true _ A22.out).mono ?_
             rintro e w45 ⟨rfl, hb⟩
             have HS5_ := (hb.cell (World.block_lt_of_cell? _ _ (hHeld.2.2.2.2.2.1))).trans (hHeld.2.2.2.2.2.1)
             have HS6_ := (hb.cell (World.block_lt_of_cell? _ _ (hHeld.2.2.2.2.2.2.1))).trans (hHeld.2.2.2.2.2.2.1)
             have HS7_ := (hb.cell (World.block_lt_of_cell? _ _ (hHeld.2.2.2.2.2.2.2.1))).trans (hHeld.2.2.2.2.2.2.2.1)
             have HS8_ := (hb.cell (World.block_lt_of_cell? _ _ (hHeld.2.2.2.2.2.2.2.2.1))).trans (hHeld.2.2.2.2.2.2.2.2.1)
             have HS9_ := (hb.cell (World.block_lt_of_cell? _ _ (hHeld.2.2.2.2.2.2.2.2.2))).trans (hHeld.2.2.2.2.2.2.2.2.2)
             refine ⟨_, rfl, ?_⟩
             have n0_ := Aside0.mk (Kd.R_below (by (with_reducible repeat (first | apply Kd.R_alloc | apply Kd.R_drewN | apply Kd.R_drew)); exact HO203.out) hb)
             have n1_ := Aside0.mk (Kd.R_below (by (with_reducible repeat (first | apply Kd.R_alloc | apply Kd.R_drewN | apply Kd.R_drew)); exact HO225.out) hb)
             have n2_ := Aside0.mk (Kd.R_below (by (with_reducible repeat (first | apply Kd.R_alloc | apply Kd.R_drewN | apply Kd.R_drew)); exact HO229.out) hb)
             have n3_ := Aside0.mk (Kd.R_below (by (with_reducible repeat (first | apply Kd.R_alloc | apply Kd.R_drewN | apply Kd.R_drew)); exact HO232.out) hb)
             have n4_ := Aside0.mk (blk_below (g := gb212) (o := .cells #[.string t205, .string t206, .int .u32 t207, .int .i64 t208, .int .u64 t209] 54 (0, 0)) (by (with_reducible repeat (first | refine blk_drewN ?_ _ | refine blk_drew ?_ | refine blk_alloc ?_ _)); exact BK212.out) hb)
             have n5_ := Aside0.mk (below_step (by repeat (first | (with_reducible first | exact HB.out | apply below_alloc | apply pw_below_drewN | apply below_drew1 | refine below_set ?_ GE212.out) | exact HB.out)) hb)
             clear HO203
             clear HO225
             clear HO229
             clear HO232
             clear BK212
             clear HB
             have HO203 := n0_
             have HO225 := n1_
             have HO229 := n2_
             have HO232 := n3_
             have BK212 := n4_
             have HB := n5_
             clear n0_ n1_ n2_ n3_ n4_ n5_
             (try clear hb)
             (try clear hb2)
             (try clear hk)
             (try clear hi)
             refine hK.out _ _ ⟨(blk_cell BK212.out 0).trans rfl, (blk_cell BK212.out 1).trans rfl, (blk_cell BK212.out 2).trans rfl, (blk_cell BK212.out 3).trans rfl, (blk_cell BK212.out 4).trans rfl, HS5_, HS6_, HS7_, HS8_, HS9_⟩ (fun hHeld => ?_)
             clear hK K
             refine norm_ (a' := ?_) ?_ ?_
             rotate_left
             ·show Act.put _ (some 80) _ = _
              simp only [Act.put, List.setIfInBounds_toArray, List.set_cons_zero, List.set_cons_succ, i64_w, i32_w]
              rfl
             refine pure_ (i := 48) (N := some 81) (v := ?_) (a' := ?_) #[true, true, true, true, true, true, true, true, true, true, true, true, true, true, true, true, true, true, true, true, true, true, true, true, true, true, true, true, true, true, true, true, true, true, true, true, true, true, true, true, true, true, true, true, true, true, true, true, true, false, false, false, false, false, false] rfl rfl (any_of HT_.out (by kernel_rfl)) (fun _ _ _ h => h) (Or.inl ⟨by rfl, ?_⟩) ?_ ?_
             rotate_left
             ·intro w'
              go_simp
              with_reducible rfl
             rotate_left
             ·simp only [Act.put, List.setIfInBounds_toArray, List.set_cons_zero, List.set_cons_succ, i64_w, i32_w]
              rfl
             refine pure_ (i := 49) (N := some 82) (v := ?_) (a' := ?_) #[true, true, true, true, true, true, true, true, true, true, true, true, true, true, true, true, true, true, true, true, true, true, true, true, true, true, true, true, true, true, true, true, true, true, true, true, true, true, true, true, true, true, true, true, true, true, true, true, true, true, false, false, false, false, false] rfl rfl (any_of HT_.out (by kernel_rfl)) (fun _ _ _ h => h) (Or.inl ⟨by rfl, ?_⟩) ?_ ?_
             rotate_left
             ·intro w'
              go_simp
              with_reducible rfl
             rotate_left
             ·simp only [Act.put, List.setIfInBounds_toArray, List.set_cons_zero, List.set_cons_succ, i64_w, i32_w]
              rfl
             refine one_ (i := 50) (N := some 83) #[true, true, true, true, true, true, true, true, true, true, true, true, true, true, true, true, true, true, true, true, true, true, true, true, true, true, true, true, true, true, true, true, true, true, true, true, true, true, true, true, true, true, true, true, true, true, true, true, true, true, true, false, false, false, false] rfl rfl (one_of HT_.out (by kernel_rfl)) (by decide) (fun K hK => ?_)
             refine goes_ Try.func42 (by kernel_rfl) rfl #[] (by rfl) rfl rfl (by (try simp only [List.map_toArray, List.map_cons, List.map_nil]); first | done | rfl | (simp only [List.length_drop, List.length_take]; rfl)) ?_
             with_reducible refine (cellaretlaw4_one.calls  t251 t252 t253 t254 t255 _ A24.out).mono ?_
             rintro e w46 ⟨rfl, hb⟩
             have HS5_ := (hb.cell (World.block_lt_of_cell? _ _ (hHeld.2.2.2.2.2.1))).trans (hHeld.2.2.2.2.2.1)
             have HS6_ := (hb.cell (World.block_lt_of_cell? _ _ (hHeld.2.2.2.2.2.2.1))).trans (hHeld.2.2.2.2.2.2.1)
             have HS7_ := (hb.cell (World.block_lt_of_cell? _ _ (hHeld.2.2.2.2.2.2.2.1))).trans (hHeld.2.2.2.2.2.2.2.1)
             have HS8_ := (hb.cell (World.block_lt_of_cell? _ _ (hHeld.2.2.2.2.2.2.2.2.1))).trans (hHeld.2.2.2.2.2.2.2.2.1)
             have HS9_ := (hb.cell (World.block_lt_of_cell? _ _ (hHeld.2.2.2.2.2.2.2.2.2))).trans (hHeld.2.2.2.2.2.2.2.2.2)
             refine ⟨_, rfl, ?_⟩
             have n0_ := Aside0.mk (Kd.R_below (by (with_reducible repeat (first | apply Kd.R_alloc | apply Kd.R_drewN | apply Kd.R_drew)); exact HO203.out) hb)
             have n1_ := Aside0.mk (Kd.R_below (by (with_reducible repeat (first | apply Kd.R_alloc | apply Kd.R_drewN | apply Kd.R_drew)); exact HO225.out) hb)
             have n2_ := Aside0.mk (Kd.R_below (by (with_reducible repeat (first | apply Kd.R_alloc | apply Kd.R_drewN | apply Kd.R_drew)); exact HO229.out) hb)
             have n3_ := Aside0.mk (Kd.R_below (by (with_reducible repeat (first | apply Kd.R_alloc | apply Kd.R_drewN | apply Kd.R_drew)); exact HO232.out) hb)
             have n4_ := Aside0.mk (blk_below (g := gb212) (o := .cells #[.string t205, .string t206, .int .u32 t207, .int .i64 t208, .int .u64 t209] 54 (0, 0)) (by (with_reducible repeat (first | refine blk_drewN ?_ _ | refine blk_drew ?_ | refine blk_alloc ?_ _)); exact BK212.out) hb)
             have n5_ := Aside0.mk (below_step (by repeat (first | (with_reducible first | exact HB.out | apply below_alloc | apply pw_below_drewN | apply below_drew1 | refine below_set ?_ GE212.out) | exact HB.out)) hb)
             clear HO203
             clear HO225
             clear HO229
             clear HO232
             clear BK212
             clear HB
             have HO203 := n0_
             have HO225 := n1_
             have HO229 := n2_
             have HO232 := n3_
             have BK212 := n4_
             have HB := n5_
             clear n0_ n1_ n2_ n3_ n4_ n5_
             (try clear hb)
             (try clear hb2)
             (try clear hk)
             (try clear hi)
             refine hK.out _ _ ⟨(blk_cell BK212.out 0).trans rfl, (blk_cell BK212.out 1).trans rfl, (blk_cell BK212.out 2).trans rfl, (blk_cell BK212.out 3).trans rfl, (blk_cell BK212.out 4).trans rfl, HS5_, HS6_, HS7_, HS8_, HS9_⟩ (fun hHeld => ?_)
             clear hK K
             refine norm_ (a' := ?_) ?_ ?_
             rotate_left
             ·show Act.put _ (some 83) _ = _
              simp only [Act.put, List.setIfInBounds_toArray, List.set_cons_zero, List.set_cons_succ, i64_w, i32_w]
              rfl
             refine one_ (i := 51) (N := some 84) #[true, true, true, true, true, true, true, true, true, true, true, true, true, true, true, true, true, true, true, true, true, true, true, true, true, true, true, true, true, true, true, true, true, true, true, true, true, true, true, true, true, true, true, true, true, true, true, true, true, true, true, true, false, false, false] rfl rfl (one_of HT_.out (by kernel_rfl)) (by decide) (fun K hK => ?_)
             refine goes_ Try.func46 (by kernel_rfl) rfl #[.agg #[.string t251, .string t252, .int .u32 t253, .int .i64 t254, .int .u64 t255]] (by rfl) rfl rfl (by (try simp only [List.map_toArray, List.map_cons, List.map_nil]); first | done | rfl | (simp only [List.length_drop, List.length_take]; rfl)) ?_
             with_reducible refine (rec_Size.calls t251 t252 t253 t254 t255 t256 _ A25.out).mono ?_
             rintro e w47 ⟨rfl, hb⟩
             have HS5_ := (hb.cell (World.block_lt_of_cell? _ _ (hHeld.2.2.2.2.2.1))).trans (hHeld.2.2.2.2.2.1)
             have HS6_ := (hb.cell (World.block_lt_of_cell? _ _ (hHeld.2.2.2.2.2.2.1))).trans (hHeld.2.2.2.2.2.2.1)
             have HS7_ := (hb.cell (World.block_lt_of_cell? _ _ (hHeld.2.2.2.2.2.2.2.1))).trans (hHeld.2.2.2.2.2.2.2.1)
             have HS8_ := (hb.cell (World.block_lt_of_cell? _ _ (hHeld.2.2.2.2.2.2.2.2.1))).trans (hHeld.2.2.2.2.2.2.2.2.1)
             have HS9_ := (hb.cell (World.block_lt_of_cell? _ _ (hHeld.2.2.2.2.2.2.2.2.2))).trans (hHeld.2.2.2.2.2.2.2.2.2)
             refine ⟨_, rfl, ?_⟩
             have n0_ := Aside0.mk (Kd.R_below (by (with_reducible repeat (first | apply Kd.R_alloc | apply Kd.R_drewN | apply Kd.R_drew)); exact HO203.out) hb)
             have n1_ := Aside0.mk (Kd.R_below (by (with_reducible repeat (first | apply Kd.R_alloc | apply Kd.R_drewN | apply Kd.R_drew)); exact HO225.out) hb)
             have n2_ := Aside0.mk (Kd.R_below (by (with_reducible repeat (first | apply Kd.R_alloc | apply Kd.R_drewN | apply Kd.R_drew)); exact HO229.out) hb)
             have n3_ := Aside0.mk (Kd.R_below (by (with_reducible repeat (first | apply Kd.R_alloc | apply Kd.R_drewN | apply Kd.R_drew)); exact HO232.out) hb)
             have n4_ := Aside0.mk (blk_below (g := gb212) (o := .cells #[.string t205, .string t206, .int .u32 t207, .int .i64 t208, .int .u64 t209] 54 (0, 0)) (by (with_reducible repeat (first | refine blk_drewN ?_ _ | refine blk_drew ?_ | refine blk_alloc ?_ _)); exact BK212.out) hb)
             have n5_ := Aside0.mk (below_step (by repeat (first | (with_reducible first | exact HB.out | apply below_alloc | apply pw_below_drewN | apply below_drew1 | refine below_set ?_ GE212.out) | exact HB.out)) hb)
             clear HO203
             clear HO225
             clear HO229
             clear HO232
             clear BK212
             clear HB
             have HO203 := n0_
             have HO225 := n1_
             have HO229 := n2_
             have HO232 := n3_
             have BK212 := n4_
             have HB := n5_
             clear n0_ n1_ n2_ n3_ n4_ n5_
             (try clear hb)
             (try clear hb2)
             (try clear hk)
             (try clear hi)
             refine hK.out _ _ ⟨(blk_cell BK212.out 0).trans rfl, (blk_cell BK212.out 1).trans rfl, (blk_cell BK212.out 2).trans rfl, (blk_cell BK212.out 3).trans rfl, (blk_cell BK212.out 4).trans rfl, HS5_, HS6_, HS7_, HS8_, HS9_⟩ (fun hHeld => ?_)
             clear hK K
             refine norm_ (a' := ?_) ?_ ?_
             rotate_left
             ·show Act.put _ (some 84) _ = _
              simp only [Act.put, List.setIfInBounds_toArray, List.set_cons_zero, List.set_cons_succ, i64_w, i32_w]
              rfl
             refine pure_ (i := 52) (N := some 85) (v := ?_) (a' := ?_) #[true, true, true, true, true, true, true, true, true, true, true, true, true, true, true, true, true, true, true, true, true, true, true, true, true, true, true, true, true, true, true, true, true, true, true, true, true, true, true, true, true, true, true, true, true, true, true, true, true, true, true, true, true, false, false] rfl rfl (any_of HT_.out (by kernel_rfl)) (fun _ _ _ h => h) (Or.inl ⟨by rfl, ?_⟩) ?_ ?_
             rotate_left
             ·intro w'
              go_simp
              with_reducible rfl
             rotate_left
             ·simp only [Act.put, List.setIfInBounds_toArray, List.set_cons_zero, List.set_cons_succ, i64_w, i32_w]
              rfl
             refine pure_ (i := 53) (N := some 86) (v := ?_) (a' := ?_) #[true, true, true, true, true, true, true, true, true, true, true, true, true, true, true, true, true, true, true, true, true, true, true, true, true, true, true, true, true, true, true, true, true, true, true, true, true, true, true, true, true, true, true, true, true, true, true, true, true, true, true, true, true, true, false] rfl rfl (any_of HT_.out (by kernel_rfl)) (fun _ _ _ h => h) (Or.inl ⟨by rfl, ?_⟩) ?_ ?_
             rotate_left
             ·intro w'
              go_simp
              with_reducible rfl
             rotate_left
             ·simp only [Act.put, List.setIfInBounds_toArray, List.set_cons_zero, List.set_cons_succ, i64_w, i32_w]
              rfl
             refine pure_ (i := 54) (N := some 0) (v := ?_) (a' := ?_) #[true, true, true, true, true, true, true, true, true, true, true, true, true, true, true, true, true, true, true, true, true, true, true, true, true, true, true, true, true, true, true, true, true, true, true, true, true, true, true, true, true, true, true, true, true, true, true, true, true, true, true, true, true, true, true] rfl rfl (any_of HT_.out (by kernel_rfl)) (fun _ _ _ h => h) (Or.inl ⟨by rfl, ?_⟩) ?_ ?_
             rotate_left
             ·intro w'
              go_simp
              with_reducible rfl
             rotate_left
             ·simp only [Act.put, List.setIfInBounds_toArray, List.set_cons_zero, List.set_cons_succ, i64_w, i32_w]
              rfl
             refine done_ (done_of HT_.out (by kernel_rfl)) ?_
             try go_wp2
             go_ret
             exact ⟨by first | rfl | (simp [errW_none, errW_some] <;> rfl) | (simp [*, errW_none, errW_some] <;> rfl), by repeat (first | (with_reducible first | exact HB.out | apply below_alloc | apply pw_below_drewN | apply below_drew1 | refine below_set ?_ GE212.out) | exact HB.out)⟩
            ·replace c23 := Bool.eq_false_iff.mpr c23
             subst c23
             have H1 : (none) = some r := by rw [if_neg (show ¬ (false = true) by decide)] at H; exact H
             clear H
             have H := H1
             clear H1
             exact absurd H (by simp)
           ·rw [if_neg c20] at H
            have c20b0 : ((((rd_T54 t230 1).f0).toList) == t240.toList && ((((rd_T54 t230 1).f1).toList) == t241.toList && (((rd_T54 t230 1).f2) == t242 && (((rd_T54 t230 1).f3) == t243 && (((rd_T54 t230 1).f4) == t244))))) = false := by simpa using c20
            (try (have c20b1 : decide ((((rd_T54 t230 1).f0).toList) = t240.toList && ((((rd_T54 t230 1).f1).toList) == t241.toList && (((rd_T54 t230 1).f2) == t242 && (((rd_T54 t230 1).f3) == t243 && (((rd_T54 t230 1).f4) == t244))))) = false := by simpa using c20))
            (try (have c20b2 : ((((rd_T54 t230 1).f0).toList) == t240.toList && ((((rd_T54 t230 1).f1).toList) == t241.toList && (((rd_T54 t230 1).f2) == t242 && (((rd_T54 t230 1).f3) == t243 && (((rd_T54 t230 1).f4) == t244))))) = false := by simpa using c20))
            (try (have c20b3 : ¬ ((((rd_T54 t230 1).f0).toList) = t240.toList && ((((rd_T54 t230 1).f1).toList) == t241.toList && (((rd_T54 t230 1).f2) == t242 && (((rd_T54 t230 1).f3) == t243 && (((rd_T54 t230 1).f4) == t244))))) := by simpa using c20))
            clear c20
            exact absurd H (by simp)
          ·rw [if_neg c18] at H
           exact absurd H (by simp)
         ·rw [if_neg c17] at H
          have c17b0 : ((t230.length : Int) == 2) = false := beq_eq_false_iff_ne.mpr c17
          have c17b1 : ((t230.length : Int) != 2) = true := bne_iff_ne.mpr c17
          exact absurd H (by simp)
        ·rw [if_neg c16] at H
         have c16b0 : (t233 == 0) = false := beq_eq_false_iff_ne.mpr c16
         have c16b1 : (t233 != 0) = true := bne_iff_ne.mpr c16
         exact absurd H (by simp)
       ·rw [if_neg c15] at H
        have c15b0 : ((t226.length : Int) == 80) = false := beq_eq_false_iff_ne.mpr c15
        have c15b1 : ((t226.length : Int) != 80) = true := bne_iff_ne.mpr c15
        exact absurd H (by simp)
      ·rw [if_neg c14] at H
       have c14b0 : (t227 == 0) = false := beq_eq_false_iff_ne.mpr c14
       have c14b1 : (t227 != 0) = true := bne_iff_ne.mpr c14
       exact absurd H (by simp)
     ·rw [if_neg c13] at H
      have c13b0 : (t205.toList == t234.toList && (t206.toList == t235.toList && (t207 == t236 && (t208 == t237 && (t209 == t238))))) = false := by simpa using c13
      (try (have c13b1 : decide (t205.toList = t234.toList && (t206.toList == t235.toList && (t207 == t236 && (t208 == t237 && (t209 == t238))))) = false := by simpa using c13))
      (try (have c13b2 : (t205.toList == t234.toList && (t206.toList == t235.toList && (t207 == t236 && (t208 == t237 && (t209 == t238))))) = false := by simpa using c13))
      (try (have c13b3 : ¬ (t205.toList = t234.toList && (t206.toList == t235.toList && (t207 == t236 && (t208 == t237 && (t209 == t238))))) := by simpa using c13))
      clear c13
      exact absurd H (by simp)
    ·rw [if_neg c11] at H
     have c11b0 : (t210 == 34) = false := beq_eq_false_iff_ne.mpr c11
     have c11b1 : (t210 != 34) = true := bne_iff_ne.mpr c11
     exact absurd H (by simp)
   ·rw [if_neg c10] at H
    have c10b0 : (t211 == 0) = false := beq_eq_false_iff_ne.mpr c10
    have c10b1 : (t211 != 0) = true := bne_iff_ne.mpr c10
    exact absurd H (by simp)
  ·rw [if_neg c9] at H
   have c9b0 : ((t201.length : Int) == 34) = false := beq_eq_false_iff_ne.mpr c9
   have c9b1 : ((t201.length : Int) != 34) = true := bne_iff_ne.mpr c9
   exact absurd H (by simp)
 ·rw [if_neg c8] at H
  have c8b0 : (t204 == 0) = false := beq_eq_false_iff_ne.mpr c8
  have c8b1 : (t204 != 0) = true := bne_iff_ne.mpr c8
  exact absurd H (by simp)

end Go.Proofs.Ytefalfheeofhhaa.QR
