/- Laid by a program of this session: what the Go functions answer, as Lean functions, and the walks that prove it; no condition beyond what each statement names. -/
import Derived.Test.YtefalfheeofhhaaQWP
namespace Go.Proofs.Ytefalfheeofhhaa.QW
open Go.RowKit Go.Proofs.YtefalfheeofhhaaW.PrintWords Go.Proofs.YtefalfheeofhhaaW.PrintLast Go.Proofs.YtefalfheeofhhaaW.PrintMore
open Go.Proofs.Ytefalfheeofhhaa.QV (errW errW_none errW_some info3)
attribute [local go_sem] max2_int min2_int max_two min_two max_three min_three max_four min_four
set_option linter.unusedVariables false
set_option linter.unusedSimpArgs false

theorem IsS76.lt {w0 W : World} {g : Nat} {f0 : List Bool} {f1 : Int} (h : IsS76 w0 W g f0 f1) : g + 1 ≤ W.heap.size := by
 obtain ⟨b, c0, hb, hr, hg, he, ho⟩ := h
 exact blk_lt hb
theorem IsS76.grown {w0 W : World} {g : Nat} {f0 : List Bool} {f1 : Int} {W1 : World} {row : Option Nat} (h : IsS76 w0 W g f0 f1) (hw : W.grownBy W1 row) (hne : some g ≠ row ∧ ∀ k, k + 1 = g → some k ≠ row) : IsS76 w0 W1 g f0 f1 :=
 h.move (fun k hk hkg => hw.block k hk (by
  rcases hkg with rfl | hkg
  · exact hne.1
  · exact hne.2 k hkg))
theorem IsS76.own_neB {w0 W : World} {g : Nat} {f0 : List Bool} {f1 : Int} {α : Type} {d : Kd α} {e : Nat} {ok : Nat → Prop} {v : Value} {xs : List α} (h : IsS76 w0 W g f0 f1) (ho : d.R e W (g + 1) ok v xs) : some g ≠ v.ownBlock ∧ ∀ k, k + 1 = g → some k ≠ v.ownBlock := by
 have hb := (Kd.R_bound ho).1
 refine ⟨fun e => ?_, fun k hk e => ?_⟩
 · have := (hb g e.symm).2.1
   omega
 · have := (hb k e.symm).2.1
   omega
theorem IsS76.apartB {w0 W : World} {g : Nat} {f0 : List Bool} {f1 : Int} {α : Type} {d : Kd α} {e : Nat} {ok : Nat → Prop} {v : Value} {xs : List α} (h : IsS76 w0 W g f0 f1) (ho : d.R e W (g + 1) ok v xs) (_ht : True) : d.R e W (g + 1) (fun k => ok k ∧ k ≠ g ∧ k + 1 ≠ g) v xs :=
 Kd.R_mono (Kd.R_bound ho) (fun k hk => ⟨hk.1, by have := hk.2.1; omega, by have := hk.2.1; omega⟩)
/-! ### cellaretlaw7_BloomSays: function 11 -/
mutual
def cellaretlaw7_BloomSays.j0 : Nat → Int → Int → List ByteArray → ByteArray → Int → Bool → List Bool → Int → Option (Bool)
 | 0, _, _, _, _, _, _, _, _ => none
 | k + 1, x0, x1, x2, x3, x10, x41, x165000, x165001 => if x41 = true then (if x10 = 1 then (some false) else (some false)) else (if x10 = 0 then (if (x2.length : Int) > 60 then (cellaretlaw7_BloomSays.j1 k x0 x1 x2 x3 x10 true x165000 x165001) else (cellaretlaw7_BloomSays.j1 k x0 x1 x2 x3 x10 (decide ((x3.size : Int) > 1000)) x165000 x165001)) else (cellaretlaw7_BloomSays.j1 k x0 x1 x2 x3 x10 true x165000 x165001))
def cellaretlaw7_BloomSays.j1 : Nat → Int → Int → List ByteArray → ByteArray → Int → Bool → List Bool → Int → Option (Bool)
 | 0, _, _, _, _, _, _, _, _ => none
 | k + 1, x0, x1, x2, x3, x10, x63, x165000, x165001 => if x63 = true then (if x10 = 0 then (some true) else (some false)) else (if 0 ≤ x0 then (if (x0 : Int).toNat ≤ 281474976710656 then (cellaretlaw7_BloomSays.l0 k x0 x1 x2 x3 (List.replicate (x0 : Int).toNat false) 0 0 x165000 x165001) else (none)) else (none))
def cellaretlaw7_BloomSays.l0 : Nat → Int → Int → List ByteArray → ByteArray → List Bool → Int → Int → List Bool → Int → Option (Bool)
 | 0, _, _, _, _, _, _, _, _, _ => none
 | k + 1, x0, x1, x2, x3, x11, x12, x13, x165000, x165001 => if x13 < (x2.length : Int) then (if 0 ≤ x13 then ((bloom_Filter_Add.f x165000 x165001 (rdOf ByteArray.empty x2 x13)).bind fun bt169 => (cellaretlaw7_BloomSays.l1 k x0 x1 x2 x3 x11 x12 x13 0 bt169.1 bt169.2)) else (none)) else (cellaretlaw7_BloomSays.l2 k x0 x1 x3 x11 x12 true 0 x165000 x165001)
def cellaretlaw7_BloomSays.l1 : Nat → Int → Int → List ByteArray → ByteArray → List Bool → Int → Int → Int → List Bool → Int → Option (Bool)
 | 0, _, _, _, _, _, _, _, _, _, _ => none
 | k + 1, x0, x1, x2, x3, x11, x12, x13, x14, x165000, x165001 => if x14 < x1 then (if 0 ≤ x13 then (if x13 < (x2.length : Int) then ((QV.cellaretref4_Bit.f k (rdOf ByteArray.empty x2 x13) x14 x0).bind fun t172 => (if 0 ≤ t172 then (if t172 < (x11.length : Int) then (if rdOf false x11 t172 = true then (cellaretlaw7_BloomSays.l1 k x0 x1 x2 x3 x11 x12 x13 (wrap64 (x14 + 1)) x165000 x165001) else (cellaretlaw7_BloomSays.l1 k x0 x1 x2 x3 (x11.set (t172 : Int).toNat true) (wrap64 (x12 + 1)) x13 (wrap64 (x14 + 1)) x165000 x165001)) else (none)) else (none))) else (none)) else (none)) else (cellaretlaw7_BloomSays.l0 k x0 x1 x2 x3 x11 x12 (wrap64 (x13 + 1)) x165000 x165001)
def cellaretlaw7_BloomSays.l2 : Nat → Int → Int → ByteArray → List Bool → Int → Bool → Int → List Bool → Int → Option (Bool)
 | 0, _, _, _, _, _, _, _, _, _ => none
 | k + 1, x0, x1, x3, x11, x12, x16, x17, x165000, x165001 => if x17 < x1 then (if x16 = true then ((QV.cellaretref4_Bit.f k x3 x17 x0).bind fun t175 => (if 0 ≤ t175 then (if t175 < (x11.length : Int) then (cellaretlaw7_BloomSays.l2 k x0 x1 x3 x11 x12 (rdOf false x11 t175) (wrap64 (x17 + 1)) x165000 x165001) else (none)) else (none))) else (cellaretlaw7_BloomSays.l2 k x0 x1 x3 x11 x12 false (wrap64 (x17 + 1)) x165000 x165001)) else ((bloom_Filter_Bits.f x165000 x165001).bind fun bt177 => (if (bt177.1.length : Int) = x12 then ((bloom_Filter_Count.f bt177.2.1 bt177.2.2).bind fun bt182 => (if bt182.1 = x12 then ((bloom_Filter_May.f bt182.2.1 bt182.2.2 x3).bind fun bt185 => (cellaretlaw7_BloomSays.j5 k x0 x11 bt177.1 (bt185.1 != x16))) else (cellaretlaw7_BloomSays.j5 k x0 x11 bt177.1 true))) else (cellaretlaw7_BloomSays.j5 k x0 x11 bt177.1 true)))
def cellaretlaw7_BloomSays.j5 : Nat → Int → List Bool → List Int → Bool → Option (Bool)
 | 0, _, _, _, _ => none
 | k + 1, x0, x11, x18, x139 => if x139 = true then (some false) else (cellaretlaw7_BloomSays.l3 k x0 x11 x18 0)
def cellaretlaw7_BloomSays.l3 : Nat → Int → List Bool → List Int → Int → Option (Bool)
 | 0, _, _, _, _ => none
 | k + 1, x0, x11, x18, x19 => if x19 < (x18.length : Int) then (if 0 ≤ x19 then (if (rd x18 x19) < 0 then (some false) else (if (rd x18 x19) ≥ x0 then (some false) else (if 0 ≤ (rd x18 x19) then (if (rd x18 x19) < (x11.length : Int) then (if (rdOf false x11 (rd x18 x19) = true) then (if x19 > 0 then (if 0 ≤ (wrap64 (x19 - 1)) then (if (wrap64 (x19 - 1)) < (x18.length : Int) then (if (rd x18 x19) ≤ (rd x18 (wrap64 (x19 - 1))) then (some false) else (cellaretlaw7_BloomSays.l3 k x0 x11 x18 (wrap64 (x19 + 1)))) else (none)) else (none)) else (cellaretlaw7_BloomSays.l3 k x0 x11 x18 (wrap64 (x19 + 1)))) else (some false)) else (none)) else (none)))) else (none)) else (some true)
end
def cellaretlaw7_BloomSays.f (k : Nat) (a0 : Int) (a1 : Int) (l2 : List ByteArray) (a3 : ByteArray) : Option (Bool) := (cellaretlaw7_awake.f k).bind fun t161 => (if t161 = true then ((bloom_New.f a0 a1).bind fun bt162 => (if a0 < 8 then (cellaretlaw7_BloomSays.j0 k a0 a1 l2 a3 0 true bt162.1 bt162.2) else (if a0 > 65536 then (cellaretlaw7_BloomSays.j0 k a0 a1 l2 a3 0 true bt162.1 bt162.2) else (if a1 < 1 then (cellaretlaw7_BloomSays.j0 k a0 a1 l2 a3 0 true bt162.1 bt162.2) else (cellaretlaw7_BloomSays.j0 k a0 a1 l2 a3 0 (decide (a1 > 8)) bt162.1 bt162.2))))) else (some false))
theorem cellaretlaw7_BloomSays.mono_l : ∀ k, (∀ y0 y1 y2 y3 y4 y5 y6 y7, LeO (cellaretlaw7_BloomSays.j0 k y0 y1 y2 y3 y4 y5 y6 y7) (cellaretlaw7_BloomSays.j0 (k + 1) y0 y1 y2 y3 y4 y5 y6 y7)) ∧ (∀ y0 y1 y2 y3 y4 y5 y6 y7, LeO (cellaretlaw7_BloomSays.j1 k y0 y1 y2 y3 y4 y5 y6 y7) (cellaretlaw7_BloomSays.j1 (k + 1) y0 y1 y2 y3 y4 y5 y6 y7)) ∧ (∀ y0 y1 y2 y3 y4 y5 y6 y7 y8, LeO (cellaretlaw7_BloomSays.l0 k y0 y1 y2 y3 y4 y5 y6 y7 y8) (cellaretlaw7_BloomSays.l0 (k + 1) y0 y1 y2 y3 y4 y5 y6 y7 y8)) ∧ (∀ y0 y1 y2 y3 y4 y5 y6 y7 y8 y9, LeO (cellaretlaw7_BloomSays.l1 k y0 y1 y2 y3 y4 y5 y6 y7 y8 y9) (cellaretlaw7_BloomSays.l1 (k + 1) y0 y1 y2 y3 y4 y5 y6 y7 y8 y9)) ∧ (∀ y0 y1 y2 y3 y4 y5 y6 y7 y8, LeO (cellaretlaw7_BloomSays.l2 k y0 y1 y2 y3 y4 y5 y6 y7 y8) (cellaretlaw7_BloomSays.l2 (k + 1) y0 y1 y2 y3 y4 y5 y6 y7 y8)) ∧ (∀ y0 y1 y2 y3, LeO (cellaretlaw7_BloomSays.j5 k y0 y1 y2 y3) (cellaretlaw7_BloomSays.j5 (k + 1) y0 y1 y2 y3)) ∧ (∀ y0 y1 y2 y3, LeO (cellaretlaw7_BloomSays.l3 k y0 y1 y2 y3) (cellaretlaw7_BloomSays.l3 (k + 1) y0 y1 y2 y3))
 | 0 => ⟨fun _ _ _ _ _ _ _ _ r h => by simp [cellaretlaw7_BloomSays.j0] at h, fun _ _ _ _ _ _ _ _ r h => by simp [cellaretlaw7_BloomSays.j1] at h, fun _ _ _ _ _ _ _ _ _ r h => by simp [cellaretlaw7_BloomSays.l0] at h, fun _ _ _ _ _ _ _ _ _ _ r h => by simp [cellaretlaw7_BloomSays.l1] at h, fun _ _ _ _ _ _ _ _ _ r h => by simp [cellaretlaw7_BloomSays.l2] at h, fun _ _ _ _ r h => by simp [cellaretlaw7_BloomSays.j5] at h, fun _ _ _ _ r h => by simp [cellaretlaw7_BloomSays.l3] at h⟩
 | k + 1 => by
  obtain ⟨ih0, ih1, ih2, ih3, ih4, ih5, ih6⟩ := cellaretlaw7_BloomSays.mono_l k
  refine ⟨?_, ?_, ?_, ?_, ?_, ?_, ?_⟩
  ·intro y0 y1 y2 y3 y4 y5 y6 y7
   unfold cellaretlaw7_BloomSays.j0
   repeat' first
   | (with_reducible exact ih0 _ _ _ _ _ _ _ _)
   | (with_reducible exact ih1 _ _ _ _ _ _ _ _)
   | (with_reducible exact ih2 _ _ _ _ _ _ _ _ _)
   | (with_reducible exact ih3 _ _ _ _ _ _ _ _ _ _)
   | (with_reducible exact ih4 _ _ _ _ _ _ _ _ _)
   | (with_reducible exact ih5 _ _ _ _)
   | (with_reducible exact ih6 _ _ _ _)
   | (with_reducible exact cellaretlaw7_awake.mono _)
   | (with_reducible exact QV.cellaretref4_Bit.mono _ _ _ _)
   | (with_reducible exact LeO.refl _)
   | (with_reducible exact LeO.none _)
   | (with_reducible refine LeO.ite ?_ ?_)
   | (with_reducible refine LeO.bind ?_ (fun _ => ?_))
   | exact ih0 _ _ _ _ _ _ _ _
   | exact ih1 _ _ _ _ _ _ _ _
   | exact ih2 _ _ _ _ _ _ _ _ _
   | exact ih3 _ _ _ _ _ _ _ _ _ _
   | exact ih4 _ _ _ _ _ _ _ _ _
   | exact ih5 _ _ _ _
   | exact ih6 _ _ _ _
   | exact cellaretlaw7_awake.mono _
   | exact QV.cellaretref4_Bit.mono _ _ _ _
   | exact LeO.none _
   | refine LeO.ite ?_ ?_
   | refine LeO.bind ?_ (fun _ => ?_)
  ·intro y0 y1 y2 y3 y4 y5 y6 y7
   unfold cellaretlaw7_BloomSays.j1
   repeat' first
   | (with_reducible exact ih0 _ _ _ _ _ _ _ _)
   | (with_reducible exact ih1 _ _ _ _ _ _ _ _)
   | (with_reducible exact ih2 _ _ _ _ _ _ _ _ _)
   | (with_reducible exact ih3 _ _ _ _ _ _ _ _ _ _)
   | (with_reducible exact ih4 _ _ _ _ _ _ _ _ _)
   | (with_reducible exact ih5 _ _ _ _)
   | (with_reducible exact ih6 _ _ _ _)
   | (with_reducible exact cellaretlaw7_awake.mono _)
   | (with_reducible exact QV.cellaretref4_Bit.mono _ _ _ _)
   | (with_reducible exact LeO.refl _)
   | (with_reducible exact LeO.none _)
   | (with_reducible refine LeO.ite ?_ ?_)
   | (with_reducible refine LeO.bind ?_ (fun _ => ?_))
   | exact ih0 _ _ _ _ _ _ _ _
   | exact ih1 _ _ _ _ _ _ _ _
   | exact ih2 _ _ _ _ _ _ _ _ _
   | exact ih3 _ _ _ _ _ _ _ _ _ _
   | exact ih4 _ _ _ _ _ _ _ _ _
   | exact ih5 _ _ _ _
   | exact ih6 _ _ _ _
   | exact cellaretlaw7_awake.mono _
   | exact QV.cellaretref4_Bit.mono _ _ _ _
   | exact LeO.none _
   | refine LeO.ite ?_ ?_
   | refine LeO.bind ?_ (fun _ => ?_)
  ·intro y0 y1 y2 y3 y4 y5 y6 y7 y8
   unfold cellaretlaw7_BloomSays.l0
   repeat' first
   | (with_reducible exact ih0 _ _ _ _ _ _ _ _)
   | (with_reducible exact ih1 _ _ _ _ _ _ _ _)
   | (with_reducible exact ih2 _ _ _ _ _ _ _ _ _)
   | (with_reducible exact ih3 _ _ _ _ _ _ _ _ _ _)
   | (with_reducible exact ih4 _ _ _ _ _ _ _ _ _)
   | (with_reducible exact ih5 _ _ _ _)
   | (with_reducible exact ih6 _ _ _ _)
   | (with_reducible exact cellaretlaw7_awake.mono _)
   | (with_reducible exact QV.cellaretref4_Bit.mono _ _ _ _)
   | (with_reducible exact LeO.refl _)
   | (with_reducible exact LeO.none _)
   | (with_reducible refine LeO.ite ?_ ?_)
   | (with_reducible refine LeO.bind ?_ (fun _ => ?_))
   | exact ih0 _ _ _ _ _ _ _ _
   | exact ih1 _ _ _ _ _ _ _ _
   | exact ih2 _ _ _ _ _ _ _ _ _
   | exact ih3 _ _ _ _ _ _ _ _ _ _
   | exact ih4 _ _ _ _ _ _ _ _ _
   | exact ih5 _ _ _ _
   | exact ih6 _ _ _ _
   | exact cellaretlaw7_awake.mono _
   | exact QV.cellaretref4_Bit.mono _ _ _ _
   | exact LeO.none _
   | refine LeO.ite ?_ ?_
   | refine LeO.bind ?_ (fun _ => ?_)
  ·intro y0 y1 y2 y3 y4 y5 y6 y7 y8 y9
   unfold cellaretlaw7_BloomSays.l1
   repeat' first
   | (with_reducible exact ih0 _ _ _ _ _ _ _ _)
   | (with_reducible exact ih1 _ _ _ _ _ _ _ _)
   | (with_reducible exact ih2 _ _ _ _ _ _ _ _ _)
   | (with_reducible exact ih3 _ _ _ _ _ _ _ _ _ _)
   | (with_reducible exact ih4 _ _ _ _ _ _ _ _ _)
   | (with_reducible exact ih5 _ _ _ _)
   | (with_reducible exact ih6 _ _ _ _)
   | (with_reducible exact cellaretlaw7_awake.mono _)
   | (with_reducible exact QV.cellaretref4_Bit.mono _ _ _ _)
   | (with_reducible exact LeO.refl _)
   | (with_reducible exact LeO.none _)
   | (with_reducible refine LeO.ite ?_ ?_)
   | (with_reducible refine LeO.bind ?_ (fun _ => ?_))
   | exact ih0 _ _ _ _ _ _ _ _
   | exact ih1 _ _ _ _ _ _ _ _
   | exact ih2 _ _ _ _ _ _ _ _ _
   | exact ih3 _ _ _ _ _ _ _ _ _ _
   | exact ih4 _ _ _ _ _ _ _ _ _
   | exact ih5 _ _ _ _
   | exact ih6 _ _ _ _
   | exact cellaretlaw7_awake.mono _
   | exact QV.cellaretref4_Bit.mono _ _ _ _
   | exact LeO.none _
   | refine LeO.ite ?_ ?_
   | refine LeO.bind ?_ (fun _ => ?_)
  ·intro y0 y1 y2 y3 y4 y5 y6 y7 y8
   unfold cellaretlaw7_BloomSays.l2
   repeat' first
   | (with_reducible exact ih0 _ _ _ _ _ _ _ _)
   | (with_reducible exact ih1 _ _ _ _ _ _ _ _)
   | (with_reducible exact ih2 _ _ _ _ _ _ _ _ _)
   | (with_reducible exact ih3 _ _ _ _ _ _ _ _ _ _)
   | (with_reducible exact ih4 _ _ _ _ _ _ _ _ _)
   | (with_reducible exact ih5 _ _ _ _)
   | (with_reducible exact ih6 _ _ _ _)
   | (with_reducible exact cellaretlaw7_awake.mono _)
   | (with_reducible exact QV.cellaretref4_Bit.mono _ _ _ _)
   | (with_reducible exact LeO.refl _)
   | (with_reducible exact LeO.none _)
   | (with_reducible refine LeO.ite ?_ ?_)
   | (with_reducible refine LeO.bind ?_ (fun _ => ?_))
   | exact ih0 _ _ _ _ _ _ _ _
   | exact ih1 _ _ _ _ _ _ _ _
   | exact ih2 _ _ _ _ _ _ _ _ _
   | exact ih3 _ _ _ _ _ _ _ _ _ _
   | exact ih4 _ _ _ _ _ _ _ _ _
   | exact ih5 _ _ _ _
   | exact ih6 _ _ _ _
   | exact cellaretlaw7_awake.mono _
   | exact QV.cellaretref4_Bit.mono _ _ _ _
   | exact LeO.none _
   | refine LeO.ite ?_ ?_
   | refine LeO.bind ?_ (fun _ => ?_)
  ·intro y0 y1 y2 y3
   unfold cellaretlaw7_BloomSays.j5
   repeat' first
   | (with_reducible exact ih0 _ _ _ _ _ _ _ _)
   | (with_reducible exact ih1 _ _ _ _ _ _ _ _)
   | (with_reducible exact ih2 _ _ _ _ _ _ _ _ _)
   | (with_reducible exact ih3 _ _ _ _ _ _ _ _ _ _)
   | (with_reducible exact ih4 _ _ _ _ _ _ _ _ _)
   | (with_reducible exact ih5 _ _ _ _)
   | (with_reducible exact ih6 _ _ _ _)
   | (with_reducible exact cellaretlaw7_awake.mono _)
   | (with_reducible exact QV.cellaretref4_Bit.mono _ _ _ _)
   | (with_reducible exact LeO.refl _)
   | (with_reducible exact LeO.none _)
   | (with_reducible refine LeO.ite ?_ ?_)
   | (with_reducible refine LeO.bind ?_ (fun _ => ?_))
   | exact ih0 _ _ _ _ _ _ _ _
   | exact ih1 _ _ _ _ _ _ _ _
   | exact ih2 _ _ _ _ _ _ _ _ _
   | exact ih3 _ _ _ _ _ _ _ _ _ _
   | exact ih4 _ _ _ _ _ _ _ _ _
   | exact ih5 _ _ _ _
   | exact ih6 _ _ _ _
   | exact cellaretlaw7_awake.mono _
   | exact QV.cellaretref4_Bit.mono _ _ _ _
   | exact LeO.none _
   | refine LeO.ite ?_ ?_
   | refine LeO.bind ?_ (fun _ => ?_)
  ·intro y0 y1 y2 y3
   unfold cellaretlaw7_BloomSays.l3
   repeat' first
   | (with_reducible exact ih0 _ _ _ _ _ _ _ _)
   | (with_reducible exact ih1 _ _ _ _ _ _ _ _)
   | (with_reducible exact ih2 _ _ _ _ _ _ _ _ _)
   | (with_reducible exact ih3 _ _ _ _ _ _ _ _ _ _)
   | (with_reducible exact ih4 _ _ _ _ _ _ _ _ _)
   | (with_reducible exact ih5 _ _ _ _)
   | (with_reducible exact ih6 _ _ _ _)
   | (with_reducible exact cellaretlaw7_awake.mono _)
   | (with_reducible exact QV.cellaretref4_Bit.mono _ _ _ _)
   | (with_reducible exact LeO.refl _)
   | (with_reducible exact LeO.none _)
   | (with_reducible refine LeO.ite ?_ ?_)
   | (with_reducible refine LeO.bind ?_ (fun _ => ?_))
   | exact ih0 _ _ _ _ _ _ _ _
   | exact ih1 _ _ _ _ _ _ _ _
   | exact ih2 _ _ _ _ _ _ _ _ _
   | exact ih3 _ _ _ _ _ _ _ _ _ _
   | exact ih4 _ _ _ _ _ _ _ _ _
   | exact ih5 _ _ _ _
   | exact ih6 _ _ _ _
   | exact cellaretlaw7_awake.mono _
   | exact QV.cellaretref4_Bit.mono _ _ _ _
   | exact LeO.none _
   | refine LeO.ite ?_ ?_
   | refine LeO.bind ?_ (fun _ => ?_)
theorem cellaretlaw7_BloomSays.mono : ∀ a0 a1 a2 a3 k, LeO (cellaretlaw7_BloomSays.f k a0 a1 a2 a3) (cellaretlaw7_BloomSays.f (k + 1) a0 a1 a2 a3) := by
 intro a0 a1 a2 a3 k
 obtain ⟨ih0, ih1, ih2, ih3, ih4, ih5, ih6⟩ := cellaretlaw7_BloomSays.mono_l k
 unfold cellaretlaw7_BloomSays.f
 repeat' first
   | (with_reducible exact ih0 _ _ _ _ _ _ _ _)
   | (with_reducible exact ih1 _ _ _ _ _ _ _ _)
   | (with_reducible exact ih2 _ _ _ _ _ _ _ _ _)
   | (with_reducible exact ih3 _ _ _ _ _ _ _ _ _ _)
   | (with_reducible exact ih4 _ _ _ _ _ _ _ _ _)
   | (with_reducible exact ih5 _ _ _ _)
   | (with_reducible exact ih6 _ _ _ _)
   | (with_reducible exact cellaretlaw7_awake.mono _)
   | (with_reducible exact QV.cellaretref4_Bit.mono _ _ _ _)
   | (with_reducible exact LeO.refl _)
   | (with_reducible exact LeO.none _)
   | (with_reducible refine LeO.ite ?_ ?_)
   | (with_reducible refine LeO.bind ?_ (fun _ => ?_))
   | exact ih0 _ _ _ _ _ _ _ _
   | exact ih1 _ _ _ _ _ _ _ _
   | exact ih2 _ _ _ _ _ _ _ _ _
   | exact ih3 _ _ _ _ _ _ _ _ _ _
   | exact ih4 _ _ _ _ _ _ _ _ _
   | exact ih5 _ _ _ _
   | exact ih6 _ _ _ _
   | exact cellaretlaw7_awake.mono _
   | exact QV.cellaretref4_Bit.mono _ _ _ _
   | exact LeO.none _
   | refine LeO.ite ?_ ?_
   | refine LeO.bind ?_ (fun _ => ?_)
set_option maxHeartbeats 8000000 in
set_option maxRecDepth 100000 in
theorem cellaretlaw7_BloomSays.calls (k : Nat) (a0 : Int) (a1 : Int) (A2 : Option Addr) (c2 : Nat) (l2 : List ByteArray) (a3 : ByteArray) (r : Bool) (w : World) (hr2 : Kd.C Kd.string w A2 l2.length l2) (hc2 : l2.length ≤ c2) (h : cellaretlaw7_BloomSays.f k a0 a1 l2 a3 = some r) :
  Calls Try.prog 11 #[.int .i64 a0, .int .i64 a1, .slice A2 l2.length c2, .string a3] w fun e w' => e = .returned (.bool r) ∧ Below w.heap.size w w' := by
 have HR2 := Aside0.mk hr2
 have HC2 := Aside0.mk hc2
 clear hr2 hc2
 have HB := Aside0.mk (Below.refl w.heap.size w)
 have H : ((cellaretlaw7_awake.f k).bind fun t161 => (if t161 = true then ((bloom_New.f a0 a1).bind fun bt162 => (if a0 < 8 then (cellaretlaw7_BloomSays.j0 k a0 a1 l2 a3 0 true bt162.1 bt162.2) else (if a0 > 65536 then (cellaretlaw7_BloomSays.j0 k a0 a1 l2 a3 0 true bt162.1 bt162.2) else (if a1 < 1 then (cellaretlaw7_BloomSays.j0 k a0 a1 l2 a3 0 true bt162.1 bt162.2) else (cellaretlaw7_BloomSays.j0 k a0 a1 l2 a3 0 (decide (a1 > 8)) bt162.1 bt162.2))))) else (some false))) = some r := h
 clear h
 replace H := Option.bind_eq_some_iff.mp H
 obtain ⟨t161, A50, H⟩ := H
 replace H : (if t161 = true then ((bloom_New.f a0 a1).bind fun bt162 => (if a0 < 8 then (cellaretlaw7_BloomSays.j0 k a0 a1 l2 a3 0 true bt162.1 bt162.2) else (if a0 > 65536 then (cellaretlaw7_BloomSays.j0 k a0 a1 l2 a3 0 true bt162.1 bt162.2) else (if a1 < 1 then (cellaretlaw7_BloomSays.j0 k a0 a1 l2 a3 0 true bt162.1 bt162.2) else (cellaretlaw7_BloomSays.j0 k a0 a1 l2 a3 0 (decide (a1 > 8)) bt162.1 bt162.2))))) else (some false)) = some r := H
 have A5 := Aside0.mk A50
 clear A50
 by_cases c6 : t161 = true
 ·subst c6
  have H1 : ((bloom_New.f a0 a1).bind fun bt162 => (if a0 < 8 then (cellaretlaw7_BloomSays.j0 k a0 a1 l2 a3 0 true bt162.1 bt162.2) else (if a0 > 65536 then (cellaretlaw7_BloomSays.j0 k a0 a1 l2 a3 0 true bt162.1 bt162.2) else (if a1 < 1 then (cellaretlaw7_BloomSays.j0 k a0 a1 l2 a3 0 true bt162.1 bt162.2) else (cellaretlaw7_BloomSays.j0 k a0 a1 l2 a3 0 (decide (a1 > 8)) bt162.1 bt162.2))))) = some r := by rw [if_pos rfl] at H; exact H
  clear H
  have H := H1
  clear H1
  replace H := Option.bind_eq_some_iff.mp H
  obtain ⟨⟨t162, t163⟩, A70, H⟩ := H
  replace H : (if a0 < 8 then (cellaretlaw7_BloomSays.j0 k a0 a1 l2 a3 0 true t162 t163) else (if a0 > 65536 then (cellaretlaw7_BloomSays.j0 k a0 a1 l2 a3 0 true t162 t163) else (if a1 < 1 then (cellaretlaw7_BloomSays.j0 k a0 a1 l2 a3 0 true t162 t163) else (cellaretlaw7_BloomSays.j0 k a0 a1 l2 a3 0 (decide (a1 > 8)) t162 t163)))) = some r := H
  have A7 := Aside0.mk A70
  clear A70
  have HC8 := Aside0.mk H
  clear H
  go_enter Try.func11, Try.ntmps11
  go_upto_region 4 with (first | (go_at_call 30; (with_reducible refine (cellaretlaw7_awake.calls k  true _ A5.out).mono ?_); rintro e w9 ⟨rfl, hb⟩; have n0_ := Aside0.mk (below_step (by repeat (first | (with_reducible first | exact HB.out | apply below_alloc | apply pw_below_drewN | apply below_drew1) | exact HB.out)) hb); clear HB; have HB := n0_; clear n0_; (try clear hb); (try clear hb2); (try clear hk); (try clear hi)) | (go_at_call 31; (with_reducible refine (bloom_New.calls a0 a1 t162 t163 w _ ?side1 A7.out).mono ?_); (case side1 => repeat (first | (with_reducible first | exact HB.out | apply below_alloc | apply pw_below_drewN | apply below_drew1) | exact HB.out)); rintro e w10 ⟨g164, rfl, hi, hb, hb2⟩; have n0_ := Aside0.mk (hb); have n1_ := Aside0.mk (hi); clear HB; have HB := n0_; have HI164 := n1_; clear n0_ n1_; (try clear hb); (try clear hb2); (try clear hk); (try clear hi)))
  repeat (go_quiet (first | (go_at_call 30; (with_reducible refine (cellaretlaw7_awake.calls k  true _ A5.out).mono ?_); rintro e w9 ⟨rfl, hb⟩; have n0_ := Aside0.mk (below_step (by repeat (first | (with_reducible first | exact HB.out | apply below_alloc | apply pw_below_drewN | apply below_drew1) | exact HB.out)) hb); clear HB; have HB := n0_; clear n0_; (try clear hb); (try clear hb2); (try clear hk); (try clear hi)) | (go_at_call 31; (with_reducible refine (bloom_New.calls a0 a1 t162 t163 w _ ?side1 A7.out).mono ?_); (case side1 => repeat (first | (with_reducible first | exact HB.out | apply below_alloc | apply pw_below_drewN | apply below_drew1) | exact HB.out)); rintro e w10 ⟨g164, rfl, hi, hb, hb2⟩; have n0_ := Aside0.mk (hb); have n1_ := Aside0.mk (hi); clear HB; have HB := n0_; have HI164 := n1_; clear n0_ n1_; (try clear hb); (try clear hb2); (try clear hk); (try clear hi))); go_upto_region 4 with (first | (go_at_call 30; (with_reducible refine (cellaretlaw7_awake.calls k  true _ A5.out).mono ?_); rintro e w9 ⟨rfl, hb⟩; have n0_ := Aside0.mk (below_step (by repeat (first | (with_reducible first | exact HB.out | apply below_alloc | apply pw_below_drewN | apply below_drew1) | exact HB.out)) hb); clear HB; have HB := n0_; clear n0_; (try clear hb); (try clear hb2); (try clear hk); (try clear hi)) | (go_at_call 31; (with_reducible refine (bloom_New.calls a0 a1 t162 t163 w _ ?side1 A7.out).mono ?_); (case side1 => repeat (first | (with_reducible first | exact HB.out | apply below_alloc | apply pw_below_drewN | apply below_drew1) | exact HB.out)); rintro e w10 ⟨g164, rfl, hi, hb, hb2⟩; have n0_ := Aside0.mk (hb); have n1_ := Aside0.mk (hi); clear HB; have HB := n0_; have HI164 := n1_; clear n0_ n1_; (try clear hb); (try clear hb2); (try clear hk); (try clear hi))))
  (try simp only [Act.put, List.setIfInBounds_toArray, List.set_cons_zero, List.set_cons_succ])
  go_cut [41] (fun v41 wc => ∃ (kq : Nat) (x41_7 : Bool), v41 = .bool x41_7 ∧ Aside0 (cellaretlaw7_BloomSays.j0 kq a0 a1 l2 a3 0 x41_7 t162 t163 = some r) ∧ Aside0 (kq ≤ k) ∧ Aside0 (IsS76 w wc g164 t162 t163) ∧ Aside0 (Below w.heap.size w wc))
  case first =>
   have H := HC8.out
   clear HC8
   by_cases c11 : a0 < 8
   ·rw [if_pos c11] at H
    have c11b0 : decide (a0 < 8) = true := decide_eq_true c11
    clear c11
    (first | rw [c11b0] | (simp only [i64_w, i32_w]; rw [c11b0]) | skip)
    have H' := Aside0.mk H
    clear H
    go_wp2
    repeat (go_quiet (fail); try go_wp2)
    go_meet
    case rel => exact ⟨_, (true), (by first | rfl | (simp; done) | (simp [*]; done)), H', ⟨by first | omega | exact Nat.le_refl _⟩, ⟨by repeat (first | (with_reducible first | exact HI164.out | apply IsS76.alloc | apply IsS76.drewN | apply IsS76.drew) | exact HI164.out)⟩, ⟨by repeat (first | (with_reducible first | exact HB.out | apply below_alloc | apply pw_below_drewN | apply below_drew1 | refine below_set ?_ (IsS76.ge HI164.out)) | exact HB.out)⟩⟩
   ·rw [if_neg c11] at H
    have c11b0 : decide (a0 < 8) = false := decide_eq_false c11
    clear c11
    (first | rw [c11b0] | (simp only [i64_w, i32_w]; rw [c11b0]) | skip)
    by_cases c12 : a0 > 65536
    ·rw [if_pos c12] at H
     have c12b0 : decide (65536 < a0) = true := decide_eq_true c12
     clear c12
     have H' := Aside0.mk H
     clear H
     go_wp2
     repeat (go_quiet (fail); try go_wp2)
     go_meet
     case rel => exact ⟨_, (true), (by first | rfl | (simp; done) | (simp [*]; done)), H', ⟨by first | omega | exact Nat.le_refl _⟩, ⟨by repeat (first | (with_reducible first | exact HI164.out | apply IsS76.alloc | apply IsS76.drewN | apply IsS76.drew) | exact HI164.out)⟩, ⟨by repeat (first | (with_reducible first | exact HB.out | apply below_alloc | apply pw_below_drewN | apply below_drew1 | refine below_set ?_ (IsS76.ge HI164.out)) | exact HB.out)⟩⟩
    ·rw [if_neg c12] at H
     have c12b0 : decide (65536 < a0) = false := decide_eq_false c12
     clear c12
     by_cases c13 : a1 < 1
     ·rw [if_pos c13] at H
      have c13b0 : decide (a1 < 1) = true := decide_eq_true c13
      clear c13
      have H' := Aside0.mk H
      clear H
      go_wp2
      repeat (go_quiet (fail); try go_wp2)
      go_meet
      case rel => exact ⟨_, (true), (by first | rfl | (simp; done) | (simp [*]; done)), H', ⟨by first | omega | exact Nat.le_refl _⟩, ⟨by repeat (first | (with_reducible first | exact HI164.out | apply IsS76.alloc | apply IsS76.drewN | apply IsS76.drew) | exact HI164.out)⟩, ⟨by repeat (first | (with_reducible first | exact HB.out | apply below_alloc | apply pw_below_drewN | apply below_drew1 | refine below_set ?_ (IsS76.ge HI164.out)) | exact HB.out)⟩⟩
     ·rw [if_neg c13] at H
      have c13b0 : decide (a1 < 1) = false := decide_eq_false c13
      clear c13
      have H' := Aside0.mk H
      clear H
      go_wp2
      repeat (go_quiet (fail); try go_wp2)
      go_meet
      case rel => exact ⟨_, (decide (a1 > 8)), (by first | rfl | (simp; done) | (simp [*]; done)), H', ⟨by first | omega | exact Nat.le_refl _⟩, ⟨by repeat (first | (with_reducible first | exact HI164.out | apply IsS76.alloc | apply IsS76.drewN | apply IsS76.drew) | exact HI164.out)⟩, ⟨by repeat (first | (with_reducible first | exact HB.out | apply below_alloc | apply pw_below_drewN | apply below_drew1 | refine below_set ?_ (IsS76.ge HI164.out)) | exact HB.out)⟩⟩
  case rest =>
   clear HC8
   try clear c1
   try clear c2
   try clear p2
   try clear c6
   try clear c11
   try clear c11b0
   try clear c12
   try clear c12b0
   try clear c13
   try clear c13b0
   obtain ⟨kq, x41_7, rfl, HA, HJ7, HI164, HB⟩ := hcut
   cases kq with
   | zero => exact absurd HA.out (by simp [cellaretlaw7_BloomSays.j0])
   | succ kj7 =>
    have H := HA.out
    clear HA
    simp only [cellaretlaw7_BloomSays.j0] at H
    by_cases c14 : x41_7 = true
    ·subst c14
     have H1 : (if 0 = 1 then (some false) else (some false)) = some r := by rw [if_pos rfl] at H; exact H
     clear H
     have H := H1
     clear H1
     by_cases c15 : 0 = 1
     ·rw [if_pos c15] at H
      have c15b0 : (0 == 1) = true := beq_iff_eq.mpr c15
      have c15b1 : (0 != 1) = false := bne_eq_false_iff_eq.mpr c15
      clear c15
      obtain rfl := Option.some.inj H
      go_wp2
      repeat (go_quiet (fail); try go_wp2)
      go_ret
      exact ⟨by first | rfl | (simp [errW_none, errW_some] <;> rfl) | (simp [*, errW_none, errW_some] <;> rfl), by repeat (first | (with_reducible first | exact HB.out | apply below_alloc | apply pw_below_drewN | apply below_drew1 | refine below_set ?_ (IsS76.ge HI164.out)) | exact HB.out)⟩
     ·rw [if_neg c15] at H
      have c15b0 : (0 == 1) = false := beq_eq_false_iff_ne.mpr c15
      have c15b1 : (0 != 1) = true := bne_iff_ne.mpr c15
      obtain rfl := Option.some.inj H
      go_wp2
      repeat (go_quiet (fail); try go_wp2)
      go_ret
      exact ⟨by first | rfl | (simp [errW_none, errW_some] <;> rfl) | (simp [*, errW_none, errW_some] <;> rfl), by repeat (first | (with_reducible first | exact HB.out | apply below_alloc | apply pw_below_drewN | apply below_drew1 | refine below_set ?_ (IsS76.ge HI164.out)) | exact HB.out)⟩
    ·replace c14 := Bool.eq_false_iff.mpr c14
     subst c14
     have H1 : (if 0 = 0 then (if (l2.length : Int) > 60 then (cellaretlaw7_BloomSays.j1 kj7 a0 a1 l2 a3 0 true t162 t163) else (cellaretlaw7_BloomSays.j1 kj7 a0 a1 l2 a3 0 (decide ((a3.size : Int) > 1000)) t162 t163)) else (cellaretlaw7_BloomSays.j1 kj7 a0 a1 l2 a3 0 true t162 t163)) = some r := by rw [if_neg (show ¬ (false = true) by decide)] at H; exact H
     clear H
     have H := H1
     clear H1
     have HC16 := Aside0.mk H
     clear H
     go_upto_region 6 with (fail)
     repeat (go_quiet (fail); go_upto_region 6 with (fail))
     go_cut [63] (fun v63 wc => ∃ (kq : Nat) (x63_15 : Bool), v63 = .bool x63_15 ∧ Aside0 (cellaretlaw7_BloomSays.j1 kq a0 a1 l2 a3 0 x63_15 t162 t163 = some r) ∧ Aside0 (kq ≤ kj7) ∧ Aside0 (IsS76 w wc g164 t162 t163) ∧ Aside0 (Below w.heap.size w wc))
     case first =>
      have H := HC16.out
      clear HC16
      by_cases c17 : 0 = 0
      ·rw [if_pos c17] at H
       have c17b0 : (0 == 0) = true := beq_iff_eq.mpr c17
       have c17b1 : (0 != 0) = false := bne_eq_false_iff_eq.mpr c17
       clear c17
       (first | rw [c17b0] | (simp only [i64_w, i32_w]; rw [c17b0]) | skip)
       by_cases c18 : (l2.length : Int) > 60
       ·rw [if_pos c18] at H
        have c18b0 : decide (60 < (l2.length : Int)) = true := decide_eq_true c18
        have c18b1 : decide (60 < l2.length) = true := decide_eq_true (by omega)
        clear c18
        have H' := Aside0.mk H
        clear H
        go_wp2
        repeat (go_quiet (fail); try go_wp2)
        go_meet
        case rel => exact ⟨_, (true), (by first | rfl | (simp; done) | (simp [*]; done)), H', ⟨by have := HJ7.out; first | omega | exact Nat.le_refl _⟩, ⟨by repeat (first | (with_reducible first | exact HI164.out | apply IsS76.alloc | apply IsS76.drewN | apply IsS76.drew) | exact HI164.out)⟩, ⟨by repeat (first | (with_reducible first | exact HB.out | apply below_alloc | apply pw_below_drewN | apply below_drew1 | refine below_set ?_ (IsS76.ge HI164.out)) | exact HB.out)⟩⟩
       ·rw [if_neg c18] at H
        have c18b0 : decide (60 < (l2.length : Int)) = false := decide_eq_false c18
        have c18b1 : decide (60 < l2.length) = false := decide_eq_false (by omega)
        clear c18
        have H' := Aside0.mk H
        clear H
        go_wp2
        repeat (go_quiet (fail); try go_wp2)
        go_meet
        case rel => exact ⟨_, (decide ((a3.size : Int) > 1000)), (by first | rfl | (simp; done) | (simp [*]; done)), H', ⟨by have := HJ7.out; first | omega | exact Nat.le_refl _⟩, ⟨by repeat (first | (with_reducible first | exact HI164.out | apply IsS76.alloc | apply IsS76.drewN | apply IsS76.drew) | exact HI164.out)⟩, ⟨by repeat (first | (with_reducible first | exact HB.out | apply below_alloc | apply pw_below_drewN | apply below_drew1 | refine below_set ?_ (IsS76.ge HI164.out)) | exact HB.out)⟩⟩
      ·exact absurd rfl c17
     case rest =>
      clear HC16
      try clear c1
      try clear c2
      try clear p2
      try clear c6
      try clear c11
      try clear c11b0
      try clear c12
      try clear c12b0
      try clear c13
      try clear c13b0
      try clear c14
      try clear c15
      try clear c15b0
      try clear c15b1
      try clear c17
      try clear c17b0
      try clear c17b1
      try clear c18
      try clear c18b0
      try clear c18b1
      try clear p2
      obtain ⟨kq, x63_15, rfl, HA, HJ15, HI164, HB⟩ := hcut
      cases kq with
      | zero => exact absurd HA.out (by simp [cellaretlaw7_BloomSays.j1])
      | succ kj15 =>
       have H := HA.out
       clear HA
       simp only [cellaretlaw7_BloomSays.j1] at H
       by_cases c19 : x63_15 = true
       ·subst c19
        have H1 : (if 0 = 0 then (some true) else (some false)) = some r := by rw [if_pos rfl] at H; exact H
        clear H
        have H := H1
        clear H1
        by_cases c20 : 0 = 0
        ·rw [if_pos c20] at H
         have c20b0 : (0 == 0) = true := beq_iff_eq.mpr c20
         have c20b1 : (0 != 0) = false := bne_eq_false_iff_eq.mpr c20
         clear c20
         obtain rfl := Option.some.inj H
         go_wp2
         repeat (go_quiet (fail); try go_wp2)
         go_ret
         exact ⟨by first | rfl | (simp [errW_none, errW_some] <;> rfl) | (simp [*, errW_none, errW_some] <;> rfl), by repeat (first | (with_reducible first | exact HB.out | apply below_alloc | apply pw_below_drewN | apply below_drew1 | refine below_set ?_ (IsS76.ge HI164.out)) | exact HB.out)⟩
        ·exact absurd rfl c20
       ·replace c19 := Bool.eq_false_iff.mpr c19
        subst c19
        have H1 : (if 0 ≤ a0 then (if (a0 : Int).toNat ≤ 281474976710656 then (cellaretlaw7_BloomSays.l0 kj15 a0 a1 l2 a3 (List.replicate (a0 : Int).toNat false) 0 0 t162 t163) else (none)) else (none)) = some r := by rw [if_neg (show ¬ (false = true) by decide)] at H; exact H
        clear H
        have H := H1
        clear H1
        by_cases c21 : 0 ≤ a0
        ·rw [if_pos c21] at H
         have c21b0 := eq_true c21
         have c21b1 : decide (0 ≤ a0) = true := decide_eq_true c21
         clear c21
         by_cases c22 : (a0 : Int).toNat ≤ 281474976710656
         ·rw [if_pos c22] at H
          have c22b0 := eq_true c22
          have c22b1 : decide ((a0 : Int).toNat ≤ 281474976710656) = true := decide_eq_true c22
          clear c22
          obtain ⟨y165, hy165⟩ : ∃ y_ : List Bool, y_ = (List.replicate (a0 : Int).toNat false) := ⟨_, rfl⟩
          replace H : (cellaretlaw7_BloomSays.l0 kj15 a0 a1 l2 a3 y165 0 0 t162 t163) = some r := by first | (rw [hy165]; with_reducible exact H) | (have H2_ := (Option.bind_some _ _).symm.trans H; rw [hy165]; with_reducible exact H2_) | (have H2_ := (Option.bind_some _ _).symm.trans H; with_reducible exact H2_) | with_reducible exact H | (rw [hy165]; exact H) | exact H
          have Ny165 := Aside0.mk hy165
          clear hy165
          have H' := Aside0.mk H
          clear H
          go_wp2_with (first | ((with_reducible refine gate_dst (N := 71) rfl ?_); (try (refine gate_guard (by rfl) ?_; dsimp only)); refine Kd.R_make Kd.bool _ 4 rfl (N := 71) rfl 42 _ _ rfl a0 rfl rfl Try.underlying42 (.bool false) 1 info4 rfl (by decide) (by omega) false (ok := fun _ => True) (okp := fun _ => True) rfl (fun _ hk => hk) trivial (of_decide_eq_true (by first | (with_reducible assumption) | assumption)) (Nat.le_trans (Nat.mul_le_mul_right _ (of_decide_eq_true (by first | (with_reducible assumption) | assumption) : a0.toNat ≤ 281474976710656)) (by omega)) (Below.refl _ _) (Nat.le_refl _) ?_; intro v166 w23 ho24 hb hg_ hnew_; clear hg_ hnew_; (first | rw [← Ny165.out] at ho24 | (simp only [Int.reduceToNat] at ho24; rw [← Ny165.out] at ho24)); have n0_ := Aside0.mk (Kd.R_lower ho24 (IsS76.lt (by repeat (first | (with_reducible first | exact HI164.out | apply IsS76.alloc | apply IsS76.drewN | apply IsS76.drew) | exact HI164.out)))); have n1_ := Aside0.mk (IsS76.below (by repeat (first | (with_reducible first | exact HI164.out | apply IsS76.alloc | apply IsS76.drewN | apply IsS76.drew) | exact HI164.out)) hb); have n2_ := Aside0.mk (below_step (by repeat (first | (with_reducible first | exact HB.out | apply below_alloc | apply pw_below_drewN | apply below_drew1 | refine below_set ?_ (IsS76.ge HI164.out)) | exact HB.out)) hb); clear HI164; clear HB; have HO167 := n0_; have HI164 := n1_; have HB := n2_; clear n0_ n1_ n2_; clear hb ho24))
          repeat (go_quiet (first | ((with_reducible refine gate_dst (N := 71) rfl ?_); (try (refine gate_guard (by rfl) ?_; dsimp only)); refine Kd.R_make Kd.bool _ 4 rfl (N := 71) rfl 42 _ _ rfl a0 rfl rfl Try.underlying42 (.bool false) 1 info4 rfl (by decide) (by omega) false (ok := fun _ => True) (okp := fun _ => True) rfl (fun _ hk => hk) trivial (of_decide_eq_true (by first | (with_reducible assumption) | assumption)) (Nat.le_trans (Nat.mul_le_mul_right _ (of_decide_eq_true (by first | (with_reducible assumption) | assumption) : a0.toNat ≤ 281474976710656)) (by omega)) (Below.refl _ _) (Nat.le_refl _) ?_; intro v166 w23 ho24 hb hg_ hnew_; clear hg_ hnew_; (first | rw [← Ny165.out] at ho24 | (simp only [Int.reduceToNat] at ho24; rw [← Ny165.out] at ho24)); have n0_ := Aside0.mk (Kd.R_lower ho24 (IsS76.lt (by repeat (first | (with_reducible first | exact HI164.out | apply IsS76.alloc | apply IsS76.drewN | apply IsS76.drew) | exact HI164.out)))); have n1_ := Aside0.mk (IsS76.below (by repeat (first | (with_reducible first | exact HI164.out | apply IsS76.alloc | apply IsS76.drewN | apply IsS76.drew) | exact HI164.out)) hb); have n2_ := Aside0.mk (below_step (by repeat (first | (with_reducible first | exact HB.out | apply below_alloc | apply pw_below_drewN | apply below_drew1 | refine below_set ?_ (IsS76.ge HI164.out)) | exact HB.out)) hb); clear HI164; clear HB; have HO167 := n0_; have HI164 := n1_; have HB := n2_; clear n0_ n1_ n2_; clear hb ho24)); try go_wp2_with (first | ((with_reducible refine gate_dst (N := 71) rfl ?_); (try (refine gate_guard (by rfl) ?_; dsimp only)); refine Kd.R_make Kd.bool _ 4 rfl (N := 71) rfl 42 _ _ rfl a0 rfl rfl Try.underlying42 (.bool false) 1 info4 rfl (by decide) (by omega) false (ok := fun _ => True) (okp := fun _ => True) rfl (fun _ hk => hk) trivial (of_decide_eq_true (by first | (with_reducible assumption) | assumption)) (Nat.le_trans (Nat.mul_le_mul_right _ (of_decide_eq_true (by first | (with_reducible assumption) | assumption) : a0.toNat ≤ 281474976710656)) (by omega)) (Below.refl _ _) (Nat.le_refl _) ?_; intro v166 w23 ho24 hb hg_ hnew_; clear hg_ hnew_; (first | rw [← Ny165.out] at ho24 | (simp only [Int.reduceToNat] at ho24; rw [← Ny165.out] at ho24)); have n0_ := Aside0.mk (Kd.R_lower ho24 (IsS76.lt (by repeat (first | (with_reducible first | exact HI164.out | apply IsS76.alloc | apply IsS76.drewN | apply IsS76.drew) | exact HI164.out)))); have n1_ := Aside0.mk (IsS76.below (by repeat (first | (with_reducible first | exact HI164.out | apply IsS76.alloc | apply IsS76.drewN | apply IsS76.drew) | exact HI164.out)) hb); have n2_ := Aside0.mk (below_step (by repeat (first | (with_reducible first | exact HB.out | apply below_alloc | apply pw_below_drewN | apply below_drew1 | refine below_set ?_ (IsS76.ge HI164.out)) | exact HB.out)) hb); clear HI164; clear HB; have HO167 := n0_; have HI164 := n1_; have HB := n2_; clear n0_ n1_ n2_; clear hb ho24)))
          go_loopg [12, 13] kj15 (fun kq v12 v13 w' => ∃ (x11_3 : List Bool) (x12_3 : Int) (x13_3 : Int) (x165000_3 : List Bool) (x165001_3 : Int), v12 = .int .i64 x12_3 ∧ v13 = .int .i64 x13_3 ∧ Aside0 (cellaretlaw7_BloomSays.l0 kq a0 a1 l2 a3 x11_3 x12_3 x13_3 x165000_3 x165001_3 = some r) ∧ Aside0 (kq ≤ kj15) ∧ Aside0 (Kd.R Kd.bool 4 w' (g164 + 1) (fun _ => True) v166 x11_3) ∧ Aside0 (IsS76 w w' g164 x165000_3 x165001_3) ∧ Aside0 (Below w.heap.size w w'))
          case atStart => exact ⟨(y165), (0), (0), (t162), (t163), (by first | rfl | (simp; done) | (simp [*]; done)), (by first | rfl | (simp; done) | (simp [*]; done)), H', ⟨Nat.le_refl _⟩, ⟨by (with_reducible repeat (first | apply Kd.R_alloc | apply Kd.R_drewN | apply Kd.R_drew)); exact HO167.out⟩, ⟨by repeat (first | (with_reducible first | exact HI164.out | apply IsS76.alloc | apply IsS76.drewN | apply IsS76.drew) | exact HI164.out)⟩, ⟨by repeat (first | (with_reducible first | exact HB.out | apply below_alloc | apply pw_below_drewN | apply below_drew1 | refine below_set ?_ (IsS76.ge HI164.out)) | exact HB.out)⟩⟩
          case round =>
           clear H'
           try clear c1
           try clear c2
           try clear p2
           try clear c6
           try clear c11
           try clear c11b0
           try clear c12
           try clear c12b0
           try clear c13
           try clear c13b0
           try clear c14
           try clear c15
           try clear c15b0
           try clear c15b1
           try clear c17
           try clear c17b0
           try clear c17b1
           try clear c18
           try clear c18b0
           try clear c18b1
           try clear c19
           try clear c20
           try clear c20b0
           try clear c20b1
           try clear c21
           try clear c21b0
           try clear c21b1
           try clear c22
           try clear c22b0
           try clear c22b1
           try clear p2
           obtain ⟨x11_3, x12_3, x13_3, x165000_3, x165001_3, rfl, rfl, HA, HK3, HO_11, HI164, HB⟩ := hrel
           cases gk with
           | zero => exact absurd HA.out (by simp [cellaretlaw7_BloomSays.l0])
           | succ k3 =>
            have H := HA.out
            clear HA
            simp only [cellaretlaw7_BloomSays.l0] at H
            by_cases c25 : x13_3 < (l2.length : Int)
            ·rw [if_pos c25] at H
             have c25b0 : decide (x13_3 < (l2.length : Int)) = true := decide_eq_true c25
             clear c25
             by_cases c26 : 0 ≤ x13_3
             ·rw [if_pos c26] at H
              have c26b0 : decide (0 ≤ x13_3) = true := decide_eq_true c26
              clear c26
              replace H := Option.bind_eq_some_iff.mp H
              obtain ⟨⟨t169, t170⟩, A270, H⟩ := H
              replace H : (cellaretlaw7_BloomSays.l1 k3 a0 a1 l2 a3 x11_3 x12_3 x13_3 0 t169 t170) = some r := H
              have A27 := Aside0.mk A270
              clear A270
              have H' := Aside0.mk H
              clear H
              have p168 : 0 ≤ (x13_3 : Int) := of_decide_eq_true (by first | (with_reducible assumption) | assumption)
              have q168 : x13_3 < (l2.length : Int) := of_decide_eq_true (by first | (with_reducible assumption) | assumption)
              obtain ⟨ad168, e168, hx168_0⟩ := Kd.at_string HR2.out x13_3 p168 q168
              cases e168
              replace hx168_0 := (HB.out.cell (World.block_lt_of_cell? w _ hx168_0)).trans hx168_0
              replace p168 := eq_true p168
              replace q168 := eq_true q168
              go_wp2_with (first | (go_at_call 32; (with_reducible refine (bloom_Filter_Add.calls g164 x165000_3 x165001_3 (rdOf ByteArray.empty l2 x13_3) t169 t170 w _ ?side1 ?side2 A27.out).mono ?_); (case side1 => repeat (first | (with_reducible first | exact HI164.out | apply IsS76.alloc | apply IsS76.drewN | apply IsS76.drew) | exact HI164.out)); (case side2 => repeat (first | (with_reducible first | exact HB.out | apply below_alloc | apply pw_below_drewN | apply below_drew1 | refine below_set ?_ (IsS76.ge HI164.out)) | exact HB.out)); rintro e w28 ⟨rfl, hi, hb, hk⟩; have n0_ := Aside0.mk (Kd.R_mono (R_keepF (IsS76.apartB (show IsS76 w _ g164 x165000_3 x165001_3 from by repeat (first | (with_reducible first | exact HI164.out | apply IsS76.alloc | apply IsS76.drewN | apply IsS76.drew) | exact HI164.out)) (by (with_reducible repeat (first | apply Kd.R_alloc | apply Kd.R_drewN | apply Kd.R_drew)); exact HO_11.out) (by decide)) hk (fun _ h => h.2)) (fun _ h => h.1)); have n1_ := Aside0.mk (hb); have n2_ := Aside0.mk (hi); clear HO_11; clear HB; clear HI164; have HO_11 := n0_; have HB := n1_; have HI164 := n2_; clear n0_ n1_ n2_; (try clear hb); (try clear hb2); (try clear hk); (try clear hi)))
              repeat (go_quiet (first | (go_at_call 32; (with_reducible refine (bloom_Filter_Add.calls g164 x165000_3 x165001_3 (rdOf ByteArray.empty l2 x13_3) t169 t170 w _ ?side1 ?side2 A27.out).mono ?_); (case side1 => repeat (first | (with_reducible first | exact HI164.out | apply IsS76.alloc | apply IsS76.drewN | apply IsS76.drew) | exact HI164.out)); (case side2 => repeat (first | (with_reducible first | exact HB.out | apply below_alloc | apply pw_below_drewN | apply below_drew1 | refine below_set ?_ (IsS76.ge HI164.out)) | exact HB.out)); rintro e w28 ⟨rfl, hi, hb, hk⟩; have n0_ := Aside0.mk (Kd.R_mono (R_keepF (IsS76.apartB (show IsS76 w _ g164 x165000_3 x165001_3 from by repeat (first | (with_reducible first | exact HI164.out | apply IsS76.alloc | apply IsS76.drewN | apply IsS76.drew) | exact HI164.out)) (by (with_reducible repeat (first | apply Kd.R_alloc | apply Kd.R_drewN | apply Kd.R_drew)); exact HO_11.out) (by decide)) hk (fun _ h => h.2)) (fun _ h => h.1)); have n1_ := Aside0.mk (hb); have n2_ := Aside0.mk (hi); clear HO_11; clear HB; clear HI164; have HO_11 := n0_; have HB := n1_; have HI164 := n2_; clear n0_ n1_ n2_; (try clear hb); (try clear hb2); (try clear hk); (try clear hi))); try go_wp2_with (first | (go_at_call 32; (with_reducible refine (bloom_Filter_Add.calls g164 x165000_3 x165001_3 (rdOf ByteArray.empty l2 x13_3) t169 t170 w _ ?side1 ?side2 A27.out).mono ?_); (case side1 => repeat (first | (with_reducible first | exact HI164.out | apply IsS76.alloc | apply IsS76.drewN | apply IsS76.drew) | exact HI164.out)); (case side2 => repeat (first | (with_reducible first | exact HB.out | apply below_alloc | apply pw_below_drewN | apply below_drew1 | refine below_set ?_ (IsS76.ge HI164.out)) | exact HB.out)); rintro e w28 ⟨rfl, hi, hb, hk⟩; have n0_ := Aside0.mk (Kd.R_mono (R_keepF (IsS76.apartB (show IsS76 w _ g164 x165000_3 x165001_3 from by repeat (first | (with_reducible first | exact HI164.out | apply IsS76.alloc | apply IsS76.drewN | apply IsS76.drew) | exact HI164.out)) (by (with_reducible repeat (first | apply Kd.R_alloc | apply Kd.R_drewN | apply Kd.R_drew)); exact HO_11.out) (by decide)) hk (fun _ h => h.2)) (fun _ h => h.1)); have n1_ := Aside0.mk (hb); have n2_ := Aside0.mk (hi); clear HO_11; clear HB; clear HI164; have HO_11 := n0_; have HB := n1_; have HI164 := n2_; clear n0_ n1_ n2_; (try clear hb); (try clear hb2); (try clear hk); (try clear hi))))
              go_loopg [12, 14] k3 (fun kq v12 v14 w' => ∃ (x11_4 : List Bool) (x12_4 : Int) (x14_4 : Int), v12 = .int .i64 x12_4 ∧ v14 = .int .i64 x14_4 ∧ Aside0 (cellaretlaw7_BloomSays.l1 kq a0 a1 l2 a3 x11_4 x12_4 x13_3 x14_4 t169 t170 = some r) ∧ Aside0 (kq ≤ k3) ∧ Aside0 (Kd.R Kd.bool 4 w' (g164 + 1) (fun _ => True) v166 x11_4) ∧ Aside0 (IsS76 w w' g164 t169 t170) ∧ Aside0 (Below w.heap.size w w'))
              case atStart => exact ⟨(x11_3), (x12_3), (0), (by first | rfl | (simp; done) | (simp [*]; done)), (by first | rfl | (simp; done) | (simp [*]; done)), H', ⟨Nat.le_refl _⟩, ⟨by (with_reducible repeat (first | apply Kd.R_alloc | apply Kd.R_drewN | apply Kd.R_drew)); exact HO_11.out⟩, ⟨by repeat (first | (with_reducible first | exact HI164.out | apply IsS76.alloc | apply IsS76.drewN | apply IsS76.drew) | exact HI164.out)⟩, ⟨by repeat (first | (with_reducible first | exact HB.out | apply below_alloc | apply pw_below_drewN | apply below_drew1 | refine below_set ?_ (IsS76.ge HI164.out)) | exact HB.out)⟩⟩
              case round =>
               clear H'
               try clear c1
               try clear p1
               try clear q1
               try clear hx1
               try clear c2
               try clear p2
               try clear c6
               try clear c11
               try clear c11b0
               try clear c12
               try clear c12b0
               try clear c13
               try clear c13b0
               try clear c14
               try clear c15
               try clear c15b0
               try clear c15b1
               try clear p16
               try clear q16
               try clear hx16
               try clear c17
               try clear c17b0
               try clear c17b1
               try clear c18
               try clear c18b0
               try clear c18b1
               try clear c19
               try clear c20
               try clear c20b0
               try clear c20b1
               try clear c21
               try clear c21b0
               try clear c21b1
               try clear c22
               try clear c22b0
               try clear c22b1
               try clear c25
               try clear c25b0
               try clear c26
               try clear c26b0
               try clear hx168_0
               try clear p168
               try clear p2
               try clear q168
               obtain ⟨x11_4, x12_4, x14_4, rfl, rfl, HA, HK4, HO_11, HI164, HB⟩ := hrel
               cases gk with
               | zero => exact absurd HA.out (by simp [cellaretlaw7_BloomSays.l1])
               | succ k4 =>
                have H := HA.out
                clear HA
                simp only [cellaretlaw7_BloomSays.l1] at H
                by_cases c29 : x14_4 < a1
                ·rw [if_pos c29] at H
                 have c29b0 : decide (x14_4 < a1) = true := decide_eq_true c29
                 clear c29
                 by_cases c30 : 0 ≤ x13_3
                 ·rw [if_pos c30] at H
                  have c30b0 : decide (0 ≤ x13_3) = true := decide_eq_true c30
                  clear c30
                  by_cases c31 : x13_3 < (l2.length : Int)
                  ·rw [if_pos c31] at H
                   have c31b0 : decide (x13_3 < (l2.length : Int)) = true := decide_eq_true c31
                   clear c31
                   replace H := Option.bind_eq_some_iff.mp H
                   obtain ⟨t172, A320, H⟩ := H
                   replace H : (if 0 ≤ t172 then (if t172 < (x11_4.length : Int) then (if rdOf false x11_4 t172 = true then (cellaretlaw7_BloomSays.l1 k4 a0 a1 l2 a3 x11_4 x12_4 x13_3 (wrap64 (x14_4 + 1)) t169 t170) else (cellaretlaw7_BloomSays.l1 k4 a0 a1 l2 a3 (x11_4.set (t172 : Int).toNat true) (wrap64 (x12_4 + 1)) x13_3 (wrap64 (x14_4 + 1)) t169 t170)) else (none)) else (none)) = some r := H
                   have A32 := Aside0.mk A320
                   clear A320
                   by_cases c33 : 0 ≤ t172
                   ·rw [if_pos c33] at H
                    have c33b0 : decide (0 ≤ t172) = true := decide_eq_true c33
                    clear c33
                    by_cases c34 : t172 < (x11_4.length : Int)
                    ·rw [if_pos c34] at H
                     have c34b0 : decide (t172 < (x11_4.length : Int)) = true := decide_eq_true c34
                     clear c34
                     obtain ⟨bq35, hbq35⟩ : ∃ b_ : Bool, b_ = (rdOf false x11_4 t172) := ⟨_, rfl⟩
                     replace H : (if bq35 = true then (cellaretlaw7_BloomSays.l1 k4 a0 a1 l2 a3 x11_4 x12_4 x13_3 (wrap64 (x14_4 + 1)) t169 t170) else (cellaretlaw7_BloomSays.l1 k4 a0 a1 l2 a3 (x11_4.set (t172 : Int).toNat true) (wrap64 (x12_4 + 1)) x13_3 (wrap64 (x14_4 + 1)) t169 t170)) = some r := by rw [← hbq35] at H; exact H
                     have Nbq35 := Aside0.mk hbq35
                     clear hbq35
                     by_cases c36 : bq35 = true
                     ·subst c36
                      have H1 : (cellaretlaw7_BloomSays.l1 k4 a0 a1 l2 a3 x11_4 x12_4 x13_3 (wrap64 (x14_4 + 1)) t169 t170) = some r := by rw [if_pos rfl] at H; exact H
                      clear H
                      have H := H1
                      clear H1
                      have H' := Aside0.mk H
                      clear H
                      have p171 : 0 ≤ (x13_3 : Int) := of_decide_eq_true (by first | (with_reducible assumption) | assumption)
                      have q171 : x13_3 < (l2.length : Int) := of_decide_eq_true (by first | (with_reducible assumption) | assumption)
                      obtain ⟨ad171, e171, hx171_0⟩ := Kd.at_string HR2.out x13_3 p171 q171
                      obtain rfl : ad168 = ad171 := (by injection e171)
                      replace hx171_0 := (HB.out.cell (World.block_lt_of_cell? w _ hx171_0)).trans hx171_0
                      replace p171 := eq_true p171
                      replace q171 := eq_true q171
                      go_wp2_with (first | (go_at_call 33; (with_reducible refine (QV.cellaretref4_Bit.calls k4 (rdOf ByteArray.empty l2 x13_3) x14_4 a0 t172 _ A32.out).mono ?_); rintro e w' ⟨rfl, ⟨nd, rfl⟩⟩; (try first | exact ⟨rfl, _, World.drewN_drewN _ _ _⟩ | exact ⟨rfl, _, Eq.trans (World.drewN_drewN _ _ _) (congrArg (World.drewN _) (Nat.add_assoc _ _ _))⟩); obtain ⟨Ao37, co37, eo37⟩ := Kd.R_slice HO_11.out; subst eo37; have p173 : 0 ≤ (t172 : Int) := of_decide_eq_true (by first | (with_reducible assumption) | assumption); have q173 : t172 < (x11_4.length : Int) := of_decide_eq_true (by first | (with_reducible assumption) | assumption); obtain ⟨ad173, e173, hx173_0⟩ := Kd.at_bool (Kd.R_reads' HO_11.out).2.2 t172 p173 q173; (try rw [← Nbq35.out] at hx173_0); cases e173; replace p173 := eq_true p173; replace q173 := eq_true q173))
                      repeat (go_quiet (first | (go_at_call 33; (with_reducible refine (QV.cellaretref4_Bit.calls k4 (rdOf ByteArray.empty l2 x13_3) x14_4 a0 t172 _ A32.out).mono ?_); rintro e w' ⟨rfl, ⟨nd, rfl⟩⟩; (try first | exact ⟨rfl, _, World.drewN_drewN _ _ _⟩ | exact ⟨rfl, _, Eq.trans (World.drewN_drewN _ _ _) (congrArg (World.drewN _) (Nat.add_assoc _ _ _))⟩); obtain ⟨Ao37, co37, eo37⟩ := Kd.R_slice HO_11.out; subst eo37; have p173 : 0 ≤ (t172 : Int) := of_decide_eq_true (by first | (with_reducible assumption) | assumption); have q173 : t172 < (x11_4.length : Int) := of_decide_eq_true (by first | (with_reducible assumption) | assumption); obtain ⟨ad173, e173, hx173_0⟩ := Kd.at_bool (Kd.R_reads' HO_11.out).2.2 t172 p173 q173; (try rw [← Nbq35.out] at hx173_0); cases e173; replace p173 := eq_true p173; replace q173 := eq_true q173)); try go_wp2_with (first | (go_at_call 33; (with_reducible refine (QV.cellaretref4_Bit.calls k4 (rdOf ByteArray.empty l2 x13_3) x14_4 a0 t172 _ A32.out).mono ?_); rintro e w' ⟨rfl, ⟨nd, rfl⟩⟩; (try first | exact ⟨rfl, _, World.drewN_drewN _ _ _⟩ | exact ⟨rfl, _, Eq.trans (World.drewN_drewN _ _ _) (congrArg (World.drewN _) (Nat.add_assoc _ _ _))⟩); obtain ⟨Ao37, co37, eo37⟩ := Kd.R_slice HO_11.out; subst eo37; have p173 : 0 ≤ (t172 : Int) := of_decide_eq_true (by first | (with_reducible assumption) | assumption); have q173 : t172 < (x11_4.length : Int) := of_decide_eq_true (by first | (with_reducible assumption) | assumption); obtain ⟨ad173, e173, hx173_0⟩ := Kd.at_bool (Kd.R_reads' HO_11.out).2.2 t172 p173 q173; (try rw [← Nbq35.out] at hx173_0); cases e173; replace p173 := eq_true p173; replace q173 := eq_true q173)))
                      go_roundg k4
                      case measure => have := HJ7.out; have := HJ15.out; have := HK3.out; have := HK4.out; omega
                      case rel => exact ⟨(x11_4), (x12_4), (wrap64 (x14_4 + 1)), (by first | rfl | (simp; done) | (simp [*]; done)), (by first | rfl | (simp; done) | (simp [*]; done)), H', ⟨by have := HJ7.out; have := HJ15.out; have := HK3.out; have := HK4.out; omega⟩, ⟨by (with_reducible repeat (first | apply Kd.R_alloc | apply Kd.R_drewN | apply Kd.R_drew)); exact HO_11.out⟩, ⟨by repeat (first | (with_reducible first | exact HI164.out | apply IsS76.alloc | apply IsS76.drewN | apply IsS76.drew) | exact HI164.out)⟩, ⟨by repeat (first | (with_reducible first | exact HB.out | apply below_alloc | apply pw_below_drewN | apply below_drew1 | refine below_set ?_ (IsS76.ge HI164.out)) | exact HB.out)⟩⟩
                     ·replace c36 := Bool.eq_false_iff.mpr c36
                      subst c36
                      have H1 : (cellaretlaw7_BloomSays.l1 k4 a0 a1 l2 a3 (x11_4.set (t172 : Int).toNat true) (wrap64 (x12_4 + 1)) x13_3 (wrap64 (x14_4 + 1)) t169 t170) = some r := by rw [if_neg (show ¬ (false = true) by decide)] at H; exact H
                      clear H
                      have H := H1
                      clear H1
                      obtain ⟨y174, hy174⟩ : ∃ y_ : List Bool, y_ = (x11_4.set (t172 : Int).toNat true) := ⟨_, rfl⟩
                      replace H : (cellaretlaw7_BloomSays.l1 k4 a0 a1 l2 a3 y174 (wrap64 (x12_4 + 1)) x13_3 (wrap64 (x14_4 + 1)) t169 t170) = some r := by first | (rw [hy174]; with_reducible exact H) | (have H2_ := (Option.bind_some _ _).symm.trans H; rw [hy174]; with_reducible exact H2_) | (have H2_ := (Option.bind_some _ _).symm.trans H; with_reducible exact H2_) | with_reducible exact H | (rw [hy174]; exact H) | exact H
                      have Ny174 := Aside0.mk hy174
                      clear hy174
                      have H' := Aside0.mk H
                      clear H
                      have p171 : 0 ≤ (x13_3 : Int) := of_decide_eq_true (by first | (with_reducible assumption) | assumption)
                      have q171 : x13_3 < (l2.length : Int) := of_decide_eq_true (by first | (with_reducible assumption) | assumption)
                      obtain ⟨ad171, e171, hx171_0⟩ := Kd.at_string HR2.out x13_3 p171 q171
                      obtain rfl : ad168 = ad171 := (by injection e171)
                      replace hx171_0 := (HB.out.cell (World.block_lt_of_cell? w _ hx171_0)).trans hx171_0
                      replace p171 := eq_true p171
                      replace q171 := eq_true q171
                      go_wp2_with (first | (go_at_call 33; (with_reducible refine (QV.cellaretref4_Bit.calls k4 (rdOf ByteArray.empty l2 x13_3) x14_4 a0 t172 _ A32.out).mono ?_); rintro e w' ⟨rfl, ⟨nd, rfl⟩⟩; (try first | exact ⟨rfl, _, World.drewN_drewN _ _ _⟩ | exact ⟨rfl, _, Eq.trans (World.drewN_drewN _ _ _) (congrArg (World.drewN _) (Nat.add_assoc _ _ _))⟩); obtain ⟨Ao39, co39, eo39⟩ := Kd.R_slice HO_11.out; subst eo39; have p173 : 0 ≤ (t172 : Int) := of_decide_eq_true (by first | (with_reducible assumption) | assumption); have q173 : t172 < (x11_4.length : Int) := of_decide_eq_true (by first | (with_reducible assumption) | assumption); obtain ⟨ad173, e173, hx173_0⟩ := Kd.at_bool (Kd.R_reads' HO_11.out).2.2 t172 p173 q173; (try rw [← Nbq35.out] at hx173_0); cases e173; replace p173 := eq_true p173; replace q173 := eq_true q173; have p38 : 0 ≤ (t172 : Int) := of_decide_eq_true (by first | (with_reducible assumption) | assumption); have q38 : (t172 : Int) < ((x11_4.length : Int) : Int) := of_decide_eq_true (by first | (with_reducible assumption) | assumption); obtain ⟨go38, co38, eo38, gb38, gl38, cl38, HG38⟩ := Kd.R_form HO_11.out (by omega); (first | cases eo38 | (injection eo38 with ea_ en_ ec_; (first | subst ea_ | (injection ea_ with ea_; subst ea_)); subst ec_; clear en_)); have GB38 := Aside0.mk (Nat.le_trans (IsS76.ge HI164.out) (Nat.le_of_succ_le gb38)); have GG38 := Aside0.mk HG38; clear gb38 gl38 HG38; (first | simp only [add_plain] at hx173_0 | skip); obtain ⟨hx38_0, hf38_0⟩ := Kd.R_celln false HO_11.out (t172 : Int) p38 q38; replace p38 := eq_true p38; replace q38 := eq_true q38; obtain ⟨hy40_, hz40_⟩ := Kd.R_celln false HO_11.out (t172 : Int) (of_decide_eq_true (by first | (with_reducible assumption) | assumption)) (of_decide_eq_true (by first | (with_reducible assumption) | assumption)); have HP40 := Kd.R_putg HO_11.out (t172 : Int) true) | ((with_reducible refine gate_store (t := 4) (p := 103) rfl ?_); (try (rw [drewN_self wr]; generalize hq_ : World.drewN wr _ = wr; have n0_ := Aside0.mk (Kd.R_at hq_ HO_11.out); have n1_ := Aside0.mk (IsS76.at_ hq_ HI164.out); have n2_ := Aside0.mk (below_at hq_ HB.out); clear hq_ HO_11 HI164 HB; have HO_11 := n0_; have HI164 := n1_; have HB := n2_; clear n0_ n1_ n2_; (try (obtain ⟨hy40_, hz40_⟩ := Kd.R_celln false HO_11.out (t172 : Int) (of_decide_eq_true (by first | (with_reducible assumption) | assumption)) (of_decide_eq_true (by first | (with_reducible assumption) | assumption)))); (try (have HP40 := Kd.R_putg HO_11.out (t172 : Int) true)))); refine store_event (t := 4) (p := 103) (v := ?vo_w41) (w1 := (wr.setCell ⟨go38, (t172 : Int).toNat, none⟩ (.bool true))) ?hg ?ho ?hn ?hr ?_; (case ho => rfl); (case hg => rfl); (case hn => rfl); (case hr => first | (go_simp; done) | (go_simp; rfl)); intro w41 hw; have hg : wr.grownBy w41 (some go38) := (by rw [hw]; exact HP40.2); have hp_ : Kd.R Kd.bool 4 w41 (g164 + 1) (fun _ => True) (.slice (some ⟨go38, 0, none⟩) x11_4.length co39) y174 := (by rw [hw, Ny174.out]; exact HP40.1); clear HP40; have n0_ := Aside0.mk (hp_); have n1_ := Aside0.mk (IsS76.grown (by repeat (first | (with_reducible first | exact HI164.out | apply IsS76.alloc | apply IsS76.drewN | apply IsS76.drew) | exact HI164.out)) hg (IsS76.own_neB HI164.out HO_11.out)); have n2_ := Aside0.mk ((by rw [hw]; exact below_set (HB.out) GB38.out : Below w.heap.size w w41)); clear HO_11; clear HI164; clear HB; have HO_11 := n0_; have HI164 := n1_; have HB := n2_; clear n0_ n1_ n2_; clear hg hw hp_))
                      repeat (go_quiet (first | (go_at_call 33; (with_reducible refine (QV.cellaretref4_Bit.calls k4 (rdOf ByteArray.empty l2 x13_3) x14_4 a0 t172 _ A32.out).mono ?_); rintro e w' ⟨rfl, ⟨nd, rfl⟩⟩; (try first | exact ⟨rfl, _, World.drewN_drewN _ _ _⟩ | exact ⟨rfl, _, Eq.trans (World.drewN_drewN _ _ _) (congrArg (World.drewN _) (Nat.add_assoc _ _ _))⟩); obtain ⟨Ao39, co39, eo39⟩ := Kd.R_slice HO_11.out; subst eo39; have p173 : 0 ≤ (t172 : Int) := of_decide_eq_true (by first | (with_reducible assumption) | assumption); have q173 : t172 < (x11_4.length : Int) := of_decide_eq_true (by first | (with_reducible assumption) | assumption); obtain ⟨ad173, e173, hx173_0⟩ := Kd.at_bool (Kd.R_reads' HO_11.out).2.2 t172 p173 q173; (try rw [← Nbq35.out] at hx173_0); cases e173; replace p173 := eq_true p173; replace q173 := eq_true q173; have p38 : 0 ≤ (t172 : Int) := of_decide_eq_true (by first | (with_reducible assumption) | assumption); have q38 : (t172 : Int) < ((x11_4.length : Int) : Int) := of_decide_eq_true (by first | (with_reducible assumption) | assumption); obtain ⟨go38, co38, eo38, gb38, gl38, cl38, HG38⟩ := Kd.R_form HO_11.out (by omega); (first | cases eo38 | (injection eo38 with ea_ en_ ec_; (first | subst ea_ | (injection ea_ with ea_; subst ea_)); subst ec_; clear en_)); have GB38 := Aside0.mk (Nat.le_trans (IsS76.ge HI164.out) (Nat.le_of_succ_le gb38)); have GG38 := Aside0.mk HG38; clear gb38 gl38 HG38; (first | simp only [add_plain] at hx173_0 | skip); obtain ⟨hx38_0, hf38_0⟩ := Kd.R_celln false HO_11.out (t172 : Int) p38 q38; replace p38 := eq_true p38; replace q38 := eq_true q38; obtain ⟨hy40_, hz40_⟩ := Kd.R_celln false HO_11.out (t172 : Int) (of_decide_eq_true (by first | (with_reducible assumption) | assumption)) (of_decide_eq_true (by first | (with_reducible assumption) | assumption)); have HP40 := Kd.R_putg HO_11.out (t172 : Int) true) | ((with_reducible refine gate_store (t := 4) (p := 103) rfl ?_); (try (rw [drewN_self wr]; generalize hq_ : World.drewN wr _ = wr; have n0_ := Aside0.mk (Kd.R_at hq_ HO_11.out); have n1_ := Aside0.mk (IsS76.at_ hq_ HI164.out); have n2_ := Aside0.mk (below_at hq_ HB.out); clear hq_ HO_11 HI164 HB; have HO_11 := n0_; have HI164 := n1_; have HB := n2_; clear n0_ n1_ n2_; (try (obtain ⟨hy40_, hz40_⟩ := Kd.R_celln false HO_11.out (t172 : Int) (of_decide_eq_true (by first | (with_reducible assumption) | assumption)) (of_decide_eq_true (by first | (with_reducible assumption) | assumption)))); (try (have HP40 := Kd.R_putg HO_11.out (t172 : Int) true)))); refine store_event (t := 4) (p := 103) (v := ?vo_w41) (w1 := (wr.setCell ⟨go38, (t172 : Int).toNat, none⟩ (.bool true))) ?hg ?ho ?hn ?hr ?_; (case ho => rfl); (case hg => rfl); (case hn => rfl); (case hr => first | (go_simp; done) | (go_simp; rfl)); intro w41 hw; have hg : wr.grownBy w41 (some go38) := (by rw [hw]; exact HP40.2); have hp_ : Kd.R Kd.bool 4 w41 (g164 + 1) (fun _ => True) (.slice (some ⟨go38, 0, none⟩) x11_4.length co39) y174 := (by rw [hw, Ny174.out]; exact HP40.1); clear HP40; have n0_ := Aside0.mk (hp_); have n1_ := Aside0.mk (IsS76.grown (by repeat (first | (with_reducible first | exact HI164.out | apply IsS76.alloc | apply IsS76.drewN | apply IsS76.drew) | exact HI164.out)) hg (IsS76.own_neB HI164.out HO_11.out)); have n2_ := Aside0.mk ((by rw [hw]; exact below_set (HB.out) GB38.out : Below w.heap.size w w41)); clear HO_11; clear HI164; clear HB; have HO_11 := n0_; have HI164 := n1_; have HB := n2_; clear n0_ n1_ n2_; clear hg hw hp_)); try go_wp2_with (first | (go_at_call 33; (with_reducible refine (QV.cellaretref4_Bit.calls k4 (rdOf ByteArray.empty l2 x13_3) x14_4 a0 t172 _ A32.out).mono ?_); rintro e w' ⟨rfl, ⟨nd, rfl⟩⟩; (try first | exact ⟨rfl, _, World.drewN_drewN _ _ _⟩ | exact ⟨rfl, _, Eq.trans (World.drewN_drewN _ _ _) (congrArg (World.drewN _) (Nat.add_assoc _ _ _))⟩); obtain ⟨Ao39, co39, eo39⟩ := Kd.R_slice HO_11.out; subst eo39; have p173 : 0 ≤ (t172 : Int) := of_decide_eq_true (by first | (with_reducible assumption) | assumption); have q173 : t172 < (x11_4.length : Int) := of_decide_eq_true (by first | (with_reducible assumption) | assumption); obtain ⟨ad173, e173, hx173_0⟩ := Kd.at_bool (Kd.R_reads' HO_11.out).2.2 t172 p173 q173; (try rw [← Nbq35.out] at hx173_0); cases e173; replace p173 := eq_true p173; replace q173 := eq_true q173; have p38 : 0 ≤ (t172 : Int) := of_decide_eq_true (by first | (with_reducible assumption) | assumption); have q38 : (t172 : Int) < ((x11_4.length : Int) : Int) := of_decide_eq_true (by first | (with_reducible assumption) | assumption); obtain ⟨go38, co38, eo38, gb38, gl38, cl38, HG38⟩ := Kd.R_form HO_11.out (by omega); (first | cases eo38 | (injection eo38 with ea_ en_ ec_; (first | subst ea_ | (injection ea_ with ea_; subst ea_)); subst ec_; clear en_)); have GB38 := Aside0.mk (Nat.le_trans (IsS76.ge HI164.out) (Nat.le_of_succ_le gb38)); have GG38 := Aside0.mk HG38; clear gb38 gl38 HG38; (first | simp only [add_plain] at hx173_0 | skip); obtain ⟨hx38_0, hf38_0⟩ := Kd.R_celln false HO_11.out (t172 : Int) p38 q38; replace p38 := eq_true p38; replace q38 := eq_true q38; obtain ⟨hy40_, hz40_⟩ := Kd.R_celln false HO_11.out (t172 : Int) (of_decide_eq_true (by first | (with_reducible assumption) | assumption)) (of_decide_eq_true (by first | (with_reducible assumption) | assumption)); have HP40 := Kd.R_putg HO_11.out (t172 : Int) true) | ((with_reducible refine gate_store (t := 4) (p := 103) rfl ?_); (try (rw [drewN_self wr]; generalize hq_ : World.drewN wr _ = wr; have n0_ := Aside0.mk (Kd.R_at hq_ HO_11.out); have n1_ := Aside0.mk (IsS76.at_ hq_ HI164.out); have n2_ := Aside0.mk (below_at hq_ HB.out); clear hq_ HO_11 HI164 HB; have HO_11 := n0_; have HI164 := n1_; have HB := n2_; clear n0_ n1_ n2_; (try (obtain ⟨hy40_, hz40_⟩ := Kd.R_celln false HO_11.out (t172 : Int) (of_decide_eq_true (by first | (with_reducible assumption) | assumption)) (of_decide_eq_true (by first | (with_reducible assumption) | assumption)))); (try (have HP40 := Kd.R_putg HO_11.out (t172 : Int) true)))); refine store_event (t := 4) (p := 103) (v := ?vo_w41) (w1 := (wr.setCell ⟨go38, (t172 : Int).toNat, none⟩ (.bool true))) ?hg ?ho ?hn ?hr ?_; (case ho => rfl); (case hg => rfl); (case hn => rfl); (case hr => first | (go_simp; done) | (go_simp; rfl)); intro w41 hw; have hg : wr.grownBy w41 (some go38) := (by rw [hw]; exact HP40.2); have hp_ : Kd.R Kd.bool 4 w41 (g164 + 1) (fun _ => True) (.slice (some ⟨go38, 0, none⟩) x11_4.length co39) y174 := (by rw [hw, Ny174.out]; exact HP40.1); clear HP40; have n0_ := Aside0.mk (hp_); have n1_ := Aside0.mk (IsS76.grown (by repeat (first | (with_reducible first | exact HI164.out | apply IsS76.alloc | apply IsS76.drewN | apply IsS76.drew) | exact HI164.out)) hg (IsS76.own_neB HI164.out HO_11.out)); have n2_ := Aside0.mk ((by rw [hw]; exact below_set (HB.out) GB38.out : Below w.heap.size w w41)); clear HO_11; clear HI164; clear HB; have HO_11 := n0_; have HI164 := n1_; have HB := n2_; clear n0_ n1_ n2_; clear hg hw hp_)))
                      go_roundg k4
                      case measure => have := HJ7.out; have := HJ15.out; have := HK3.out; have := HK4.out; omega
                      case rel => exact ⟨(y174), (wrap64 (x12_4 + 1)), (wrap64 (x14_4 + 1)), (by first | rfl | (simp; done) | (simp [*]; done)), (by first | rfl | (simp; done) | (simp [*]; done)), H', ⟨by have := HJ7.out; have := HJ15.out; have := HK3.out; have := HK4.out; omega⟩, ⟨by (with_reducible repeat (first | apply Kd.R_alloc | apply Kd.R_drewN | apply Kd.R_drew)); exact HO_11.out⟩, ⟨by repeat (first | (with_reducible first | exact HI164.out | apply IsS76.alloc | apply IsS76.drewN | apply IsS76.drew) | exact HI164.out)⟩, ⟨by repeat (first | (with_reducible first | exact HB.out | apply below_alloc | apply pw_below_drewN | apply below_drew1 | refine below_set ?_ (IsS76.ge HI164.out)) | exact HB.out)⟩⟩
                    ·rw [if_neg c34] at H
                     exact absurd H (by simp)
                   ·rw [if_neg c33] at H
                    exact absurd H (by simp)
                  ·rw [if_neg c31] at H
                   exact absurd H (by simp)
                 ·rw [if_neg c30] at H
                  exact absurd H (by simp)
                ·rw [if_neg c29] at H
                 have c29b0 : decide (x14_4 < a1) = false := decide_eq_false c29
                 clear c29
                 have H' := Aside0.mk H
                 clear H
                 go_wp2
                 repeat (go_quiet (fail); try go_wp2)
                 go_roundg k4
                 case measure => have := HJ7.out; have := HJ15.out; have := HK3.out; have := HK4.out; omega
                 case rel => exact ⟨(x11_4), (x12_4), (wrap64 (x13_3 + 1)), (t169), (t170), (by first | rfl | (simp; done) | (simp [*]; done)), (by first | rfl | (simp; done) | (simp [*]; done)), H', ⟨by have := HJ7.out; have := HJ15.out; have := HK3.out; have := HK4.out; omega⟩, ⟨by (with_reducible repeat (first | apply Kd.R_alloc | apply Kd.R_drewN | apply Kd.R_drew)); exact HO_11.out⟩, ⟨by repeat (first | (with_reducible first | exact HI164.out | apply IsS76.alloc | apply IsS76.drewN | apply IsS76.drew) | exact HI164.out)⟩, ⟨by repeat (first | (with_reducible first | exact HB.out | apply below_alloc | apply pw_below_drewN | apply below_drew1 | refine below_set ?_ (IsS76.ge HI164.out)) | exact HB.out)⟩⟩
             ·rw [if_neg c26] at H
              exact absurd H (by simp)
            ·rw [if_neg c25] at H
             have c25b0 : decide (x13_3 < (l2.length : Int)) = false := decide_eq_false c25
             clear c25
             have H' := Aside0.mk H
             clear H
             go_wp2
             repeat (go_quiet (fail); try go_wp2)
             go_loopg [16, 17] k3 (fun kq v16 v17 w' => ∃ (x16_4 : Bool) (x17_4 : Int), v16 = .bool x16_4 ∧ v17 = .int .i64 x17_4 ∧ Aside0 (cellaretlaw7_BloomSays.l2 kq a0 a1 a3 x11_3 x12_3 x16_4 x17_4 x165000_3 x165001_3 = some r) ∧ Aside0 (kq ≤ k3) ∧ Aside0 (Kd.R Kd.bool 4 w' (g164 + 1) (fun _ => True) v166 x11_3) ∧ Aside0 (IsS76 w w' g164 x165000_3 x165001_3) ∧ Aside0 (Below w.heap.size w w'))
             case atStart => exact ⟨(true), (0), (by first | rfl | (simp; done) | (simp [*]; done)), (by first | rfl | (simp; done) | (simp [*]; done)), H', ⟨Nat.le_refl _⟩, ⟨by (with_reducible repeat (first | apply Kd.R_alloc | apply Kd.R_drewN | apply Kd.R_drew)); exact HO_11.out⟩, ⟨by repeat (first | (with_reducible first | exact HI164.out | apply IsS76.alloc | apply IsS76.drewN | apply IsS76.drew) | exact HI164.out)⟩, ⟨by repeat (first | (with_reducible first | exact HB.out | apply below_alloc | apply pw_below_drewN | apply below_drew1 | refine below_set ?_ (IsS76.ge HI164.out)) | exact HB.out)⟩⟩
             case round =>
              clear H'
              try clear c1
              try clear p1
              try clear q1
              try clear hx1
              try clear c2
              try clear p2
              try clear c3
              try clear p3
              try clear q3
              try clear hx3
              try clear c6
              try clear p6
              try clear c11
              try clear c11b0
              try clear c12
              try clear c12b0
              try clear c13
              try clear c13b0
              try clear c14
              try clear c15
              try clear c15b0
              try clear c15b1
              try clear p16
              try clear q16
              try clear hx16
              try clear c17
              try clear c17b0
              try clear c17b1
              try clear p17
              try clear q17
              try clear hx17
              try clear c18
              try clear c18b0
              try clear c18b1
              try clear c19
              try clear c20
              try clear c20b0
              try clear c20b1
              try clear c21
              try clear c21b0
              try clear c21b1
              try clear c22
              try clear c22b0
              try clear c22b1
              try clear c25
              try clear c25b0
              try clear c26
              try clear c26b0
              try clear c29
              try clear c29b0
              try clear c30
              try clear c30b0
              try clear c31
              try clear c31b0
              try clear c33
              try clear c33b0
              try clear c34
              try clear c34b0
              try clear q35
              try clear c36
              try clear p38
              try clear q38
              try clear hx38
              try clear hf38
              try clear hx168_0
              try clear hx171_0
              try clear hx173_0
              try clear hx38_0
              try clear p1
              try clear p16
              try clear p168
              try clear p171
              try clear p173
              try clear p2
              try clear p38
              try clear q1
              try clear q16
              try clear q168
              try clear q171
              try clear q173
              try clear q38
              obtain ⟨x16_4, x17_4, rfl, rfl, HA, HK4, HO_11, HI164, HB⟩ := hrel
              cases gk with
              | zero => exact absurd HA.out (by simp [cellaretlaw7_BloomSays.l2])
              | succ k4 =>
               have H := HA.out
               clear HA
               simp only [cellaretlaw7_BloomSays.l2] at H
               by_cases c42 : x17_4 < a1
               ·rw [if_pos c42] at H
                have c42b0 : decide (x17_4 < a1) = true := decide_eq_true c42
                clear c42
                by_cases c43 : x16_4 = true
                ·subst c43
                 have H1 : ((QV.cellaretref4_Bit.f k4 a3 x17_4 a0).bind fun t175 => (if 0 ≤ t175 then (if t175 < (x11_3.length : Int) then (cellaretlaw7_BloomSays.l2 k4 a0 a1 a3 x11_3 x12_3 (rdOf false x11_3 t175) (wrap64 (x17_4 + 1)) x165000_3 x165001_3) else (none)) else (none))) = some r := by rw [if_pos rfl] at H; exact H
                 clear H
                 have H := H1
                 clear H1
                 replace H := Option.bind_eq_some_iff.mp H
                 obtain ⟨t175, A440, H⟩ := H
                 replace H : (if 0 ≤ t175 then (if t175 < (x11_3.length : Int) then (cellaretlaw7_BloomSays.l2 k4 a0 a1 a3 x11_3 x12_3 (rdOf false x11_3 t175) (wrap64 (x17_4 + 1)) x165000_3 x165001_3) else (none)) else (none)) = some r := H
                 have A44 := Aside0.mk A440
                 clear A440
                 by_cases c45 : 0 ≤ t175
                 ·rw [if_pos c45] at H
                  have c45b0 : decide (0 ≤ t175) = true := decide_eq_true c45
                  clear c45
                  by_cases c46 : t175 < (x11_3.length : Int)
                  ·rw [if_pos c46] at H
                   have c46b0 : decide (t175 < (x11_3.length : Int)) = true := decide_eq_true c46
                   clear c46
                   have H' := Aside0.mk H
                   clear H
                   go_wp2_with (first | (go_at_call 33; (with_reducible refine (QV.cellaretref4_Bit.calls k4 a3 x17_4 a0 t175 _ A44.out).mono ?_); rintro e w' ⟨rfl, ⟨nd, rfl⟩⟩; (try first | exact ⟨rfl, _, World.drewN_drewN _ _ _⟩ | exact ⟨rfl, _, Eq.trans (World.drewN_drewN _ _ _) (congrArg (World.drewN _) (Nat.add_assoc _ _ _))⟩); obtain ⟨Ao47, co47, eo47⟩ := Kd.R_slice HO_11.out; subst eo47; have p176 : 0 ≤ (t175 : Int) := of_decide_eq_true (by first | (with_reducible assumption) | assumption); have q176 : t175 < (x11_3.length : Int) := of_decide_eq_true (by first | (with_reducible assumption) | assumption); obtain ⟨ad176, e176, hx176_0⟩ := Kd.at_bool (Kd.R_reads' HO_11.out).2.2 t175 p176 q176; cases e176; replace p176 := eq_true p176; replace q176 := eq_true q176))
                   repeat (go_quiet (first | (go_at_call 33; (with_reducible refine (QV.cellaretref4_Bit.calls k4 a3 x17_4 a0 t175 _ A44.out).mono ?_); rintro e w' ⟨rfl, ⟨nd, rfl⟩⟩; (try first | exact ⟨rfl, _, World.drewN_drewN _ _ _⟩ | exact ⟨rfl, _, Eq.trans (World.drewN_drewN _ _ _) (congrArg (World.drewN _) (Nat.add_assoc _ _ _))⟩); obtain ⟨Ao47, co47, eo47⟩ := Kd.R_slice HO_11.out; subst eo47; have p176 : 0 ≤ (t175 : Int) := of_decide_eq_true (by first | (with_reducible assumption) | assumption); have q176 : t175 < (x11_3.length : Int) := of_decide_eq_true (by first | (with_reducible assumption) | assumption); obtain ⟨ad176, e176, hx176_0⟩ := Kd.at_bool (Kd.R_reads' HO_11.out).2.2 t175 p176 q176; cases e176; replace p176 := eq_true p176; replace q176 := eq_true q176)); try go_wp2_with (first | (go_at_call 33; (with_reducible refine (QV.cellaretref4_Bit.calls k4 a3 x17_4 a0 t175 _ A44.out).mono ?_); rintro e w' ⟨rfl, ⟨nd, rfl⟩⟩; (try first | exact ⟨rfl, _, World.drewN_drewN _ _ _⟩ | exact ⟨rfl, _, Eq.trans (World.drewN_drewN _ _ _) (congrArg (World.drewN _) (Nat.add_assoc _ _ _))⟩); obtain ⟨Ao47, co47, eo47⟩ := Kd.R_slice HO_11.out; subst eo47; have p176 : 0 ≤ (t175 : Int) := of_decide_eq_true (by first | (with_reducible assumption) | assumption); have q176 : t175 < (x11_3.length : Int) := of_decide_eq_true (by first | (with_reducible assumption) | assumption); obtain ⟨ad176, e176, hx176_0⟩ := Kd.at_bool (Kd.R_reads' HO_11.out).2.2 t175 p176 q176; cases e176; replace p176 := eq_true p176; replace q176 := eq_true q176)))
                   go_roundg k4
                   case measure => have := HJ7.out; have := HJ15.out; have := HK3.out; have := HK4.out; omega
                   case rel => exact ⟨(rdOf false x11_3 t175), (wrap64 (x17_4 + 1)), (by first | rfl | (simp; done) | (simp [*]; done)), (by first | rfl | (simp; done) | (simp [*]; done)), H', ⟨by have := HJ7.out; have := HJ15.out; have := HK3.out; have := HK4.out; omega⟩, ⟨by (with_reducible repeat (first | apply Kd.R_alloc | apply Kd.R_drewN | apply Kd.R_drew)); exact HO_11.out⟩, ⟨by repeat (first | (with_reducible first | exact HI164.out | apply IsS76.alloc | apply IsS76.drewN | apply IsS76.drew) | exact HI164.out)⟩, ⟨by repeat (first | (with_reducible first | exact HB.out | apply below_alloc | apply pw_below_drewN | apply below_drew1 | refine below_set ?_ (IsS76.ge HI164.out)) | exact HB.out)⟩⟩
                  ·rw [if_neg c46] at H
                   exact absurd H (by simp)
                 ·rw [if_neg c45] at H
                  exact absurd H (by simp)
                ·replace c43 := Bool.eq_false_iff.mpr c43
                 subst c43
                 have H1 : (cellaretlaw7_BloomSays.l2 k4 a0 a1 a3 x11_3 x12_3 false (wrap64 (x17_4 + 1)) x165000_3 x165001_3) = some r := by rw [if_neg (show ¬ (false = true) by decide)] at H; exact H
                 clear H
                 have H := H1
                 clear H1
                 have H' := Aside0.mk H
                 clear H
                 go_wp2
                 repeat (go_quiet (fail); try go_wp2)
                 go_roundg k4
                 case measure => have := HJ7.out; have := HJ15.out; have := HK3.out; have := HK4.out; omega
                 case rel => exact ⟨(false), (wrap64 (x17_4 + 1)), (by first | rfl | (simp; done) | (simp [*]; done)), (by first | rfl | (simp; done) | (simp [*]; done)), H', ⟨by have := HJ7.out; have := HJ15.out; have := HK3.out; have := HK4.out; omega⟩, ⟨by (with_reducible repeat (first | apply Kd.R_alloc | apply Kd.R_drewN | apply Kd.R_drew)); exact HO_11.out⟩, ⟨by repeat (first | (with_reducible first | exact HI164.out | apply IsS76.alloc | apply IsS76.drewN | apply IsS76.drew) | exact HI164.out)⟩, ⟨by repeat (first | (with_reducible first | exact HB.out | apply below_alloc | apply pw_below_drewN | apply below_drew1 | refine below_set ?_ (IsS76.ge HI164.out)) | exact HB.out)⟩⟩
               ·rw [if_neg c42] at H
                have c42b0 : decide (x17_4 < a1) = false := decide_eq_false c42
                clear c42
                replace H := Option.bind_eq_some_iff.mp H
                obtain ⟨⟨t177, t180, t181⟩, A480, H⟩ := H
                replace H : (if (t177.length : Int) = x12_3 then ((bloom_Filter_Count.f t180 t181).bind fun bt182 => (if bt182.1 = x12_3 then ((bloom_Filter_May.f bt182.2.1 bt182.2.2 a3).bind fun bt185 => (cellaretlaw7_BloomSays.j5 k4 a0 x11_3 t177 (bt185.1 != x16_4))) else (cellaretlaw7_BloomSays.j5 k4 a0 x11_3 t177 true))) else (cellaretlaw7_BloomSays.j5 k4 a0 x11_3 t177 true)) = some r := H
                have A48 := Aside0.mk A480
                clear A480
                have HC49 := Aside0.mk H
                clear H
                go_upto_region 27 with (first | (go_at_call 34; (with_reducible refine (bloom_Filter_Bits.calls g164 x165000_3 x165001_3 t177 t180 t181 w _ ?side1 ?side2 A48.out).mono ?_); (case side1 => repeat (first | (with_reducible first | exact HI164.out | apply IsS76.alloc | apply IsS76.drewN | apply IsS76.drew) | exact HI164.out)); (case side2 => repeat (first | (with_reducible first | exact HB.out | apply below_alloc | apply pw_below_drewN | apply below_drew1 | refine below_set ?_ (IsS76.ge HI164.out)) | exact HB.out)); rintro e w50 ⟨v178, rfl, ho0, hi, hb, hk⟩; have n0_ := Aside0.mk (Kd.R_mono (R_keepF (IsS76.apartB (show IsS76 w _ g164 x165000_3 x165001_3 from by repeat (first | (with_reducible first | exact HI164.out | apply IsS76.alloc | apply IsS76.drewN | apply IsS76.drew) | exact HI164.out)) (by (with_reducible repeat (first | apply Kd.R_alloc | apply Kd.R_drewN | apply Kd.R_drew)); exact HO_11.out) (by decide)) hk (fun _ h => h.2)) (fun _ h => h.1)); have n1_ := Aside0.mk (Kd.R_lower ho0 (below_size (by repeat (first | (with_reducible first | exact HB.out | apply below_alloc | apply pw_below_drewN | apply below_drew1 | refine below_set ?_ (IsS76.ge HI164.out)) | exact HB.out)))); have n2_ := Aside0.mk (hb); have n3_ := Aside0.mk (hi); clear HO_11; clear HB; clear HI164; have HO_11 := n0_; have HO179 := n1_; have HB := n2_; have HI164 := n3_; clear n0_ n1_ n2_ n3_; (try clear hb); (try clear hb2); (try clear hk); (try clear hi); (try clear ho0)))
                repeat (go_quiet (first | (go_at_call 34; (with_reducible refine (bloom_Filter_Bits.calls g164 x165000_3 x165001_3 t177 t180 t181 w _ ?side1 ?side2 A48.out).mono ?_); (case side1 => repeat (first | (with_reducible first | exact HI164.out | apply IsS76.alloc | apply IsS76.drewN | apply IsS76.drew) | exact HI164.out)); (case side2 => repeat (first | (with_reducible first | exact HB.out | apply below_alloc | apply pw_below_drewN | apply below_drew1 | refine below_set ?_ (IsS76.ge HI164.out)) | exact HB.out)); rintro e w50 ⟨v178, rfl, ho0, hi, hb, hk⟩; have n0_ := Aside0.mk (Kd.R_mono (R_keepF (IsS76.apartB (show IsS76 w _ g164 x165000_3 x165001_3 from by repeat (first | (with_reducible first | exact HI164.out | apply IsS76.alloc | apply IsS76.drewN | apply IsS76.drew) | exact HI164.out)) (by (with_reducible repeat (first | apply Kd.R_alloc | apply Kd.R_drewN | apply Kd.R_drew)); exact HO_11.out) (by decide)) hk (fun _ h => h.2)) (fun _ h => h.1)); have n1_ := Aside0.mk (Kd.R_lower ho0 (below_size (by repeat (first | (with_reducible first | exact HB.out | apply below_alloc | apply pw_below_drewN | apply below_drew1 | refine below_set ?_ (IsS76.ge HI164.out)) | exact HB.out)))); have n2_ := Aside0.mk (hb); have n3_ := Aside0.mk (hi); clear HO_11; clear HB; clear HI164; have HO_11 := n0_; have HO179 := n1_; have HB := n2_; have HI164 := n3_; clear n0_ n1_ n2_ n3_; (try clear hb); (try clear hb2); (try clear hk); (try clear hi); (try clear ho0))); go_upto_region 27 with (first | (go_at_call 34; (with_reducible refine (bloom_Filter_Bits.calls g164 x165000_3 x165001_3 t177 t180 t181 w _ ?side1 ?side2 A48.out).mono ?_); (case side1 => repeat (first | (with_reducible first | exact HI164.out | apply IsS76.alloc | apply IsS76.drewN | apply IsS76.drew) | exact HI164.out)); (case side2 => repeat (first | (with_reducible first | exact HB.out | apply below_alloc | apply pw_below_drewN | apply below_drew1 | refine below_set ?_ (IsS76.ge HI164.out)) | exact HB.out)); rintro e w50 ⟨v178, rfl, ho0, hi, hb, hk⟩; have n0_ := Aside0.mk (Kd.R_mono (R_keepF (IsS76.apartB (show IsS76 w _ g164 x165000_3 x165001_3 from by repeat (first | (with_reducible first | exact HI164.out | apply IsS76.alloc | apply IsS76.drewN | apply IsS76.drew) | exact HI164.out)) (by (with_reducible repeat (first | apply Kd.R_alloc | apply Kd.R_drewN | apply Kd.R_drew)); exact HO_11.out) (by decide)) hk (fun _ h => h.2)) (fun _ h => h.1)); have n1_ := Aside0.mk (Kd.R_lower ho0 (below_size (by repeat (first | (with_reducible first | exact HB.out | apply below_alloc | apply pw_below_drewN | apply below_drew1 | refine below_set ?_ (IsS76.ge HI164.out)) | exact HB.out)))); have n2_ := Aside0.mk (hb); have n3_ := Aside0.mk (hi); clear HO_11; clear HB; clear HI164; have HO_11 := n0_; have HO179 := n1_; have HB := n2_; have HI164 := n3_; clear n0_ n1_ n2_ n3_; (try clear hb); (try clear hb2); (try clear hk); (try clear hi); (try clear ho0))))
                (try simp only [Act.put, List.setIfInBounds_toArray, List.set_cons_zero, List.set_cons_succ])
                go_cut [139] (fun v139 wc => ∃ (kq : Nat) (x139_48 : Bool), v139 = .bool x139_48 ∧ Aside0 (cellaretlaw7_BloomSays.j5 kq a0 x11_3 t177 x139_48 = some r) ∧ Aside0 (kq ≤ k4) ∧ Aside0 (Kd.R Kd.bool 4 wc (g164 + 1) (fun _ => True) v166 x11_3) ∧ Aside0 (Kd.R (Kd.int .i64) 3 wc w.heap.size (fun _ => True) v178 t177) ∧ Aside0 (Below w.heap.size w wc))
                case first =>
                 have H := HC49.out
                 clear HC49
                 by_cases c51 : (t177.length : Int) = x12_3
                 ·rw [if_pos c51] at H
                  have c51b0 : ((t177.length : Int) == x12_3) = true := beq_iff_eq.mpr c51
                  have c51b1 : ((t177.length : Int) != x12_3) = false := bne_eq_false_iff_eq.mpr c51
                  clear c51
                  (first | rw [c51b0] | (simp only [i64_w, i32_w]; rw [c51b0]) | skip)
                  replace H := Option.bind_eq_some_iff.mp H
                  obtain ⟨⟨t182, t183, t184⟩, A520, H⟩ := H
                  replace H : (if t182 = x12_3 then ((bloom_Filter_May.f t183 t184 a3).bind fun bt185 => (cellaretlaw7_BloomSays.j5 k4 a0 x11_3 t177 (bt185.1 != x16_4))) else (cellaretlaw7_BloomSays.j5 k4 a0 x11_3 t177 true)) = some r := H
                  have A52 := Aside0.mk A520
                  clear A520
                  by_cases c53 : t182 = x12_3
                  ·rw [if_pos c53] at H
                   have c53b0 : (t182 == x12_3) = true := beq_iff_eq.mpr c53
                   have c53b1 : (t182 != x12_3) = false := bne_eq_false_iff_eq.mpr c53
                   clear c53
                   replace H := Option.bind_eq_some_iff.mp H
                   obtain ⟨⟨t185, t186, t187⟩, A540, H⟩ := H
                   replace H : (cellaretlaw7_BloomSays.j5 k4 a0 x11_3 t177 (t185 != x16_4)) = some r := H
                   have A54 := Aside0.mk A540
                   clear A540
                   have H' := Aside0.mk H
                   clear H
                   obtain ⟨Ao55, co55, eo55⟩ := Kd.R_slice HO179.out
                   subst eo55
                   go_wp2_with (first | (go_at_call 35; (with_reducible refine (bloom_Filter_Count.calls g164 t180 t181 t182 t183 t184 w _ ?side1 ?side2 A52.out).mono ?_); (case side1 => repeat (first | (with_reducible first | exact HI164.out | apply IsS76.alloc | apply IsS76.drewN | apply IsS76.drew) | exact HI164.out)); (case side2 => repeat (first | (with_reducible first | exact HB.out | apply below_alloc | apply pw_below_drewN | apply below_drew1 | refine below_set ?_ (IsS76.ge HI164.out)) | exact HB.out)); rintro e w56 ⟨rfl, hi, hb, hk⟩; have n0_ := Aside0.mk (Kd.R_mono (R_keepF (IsS76.apartB (show IsS76 w _ g164 t180 t181 from by repeat (first | (with_reducible first | exact HI164.out | apply IsS76.alloc | apply IsS76.drewN | apply IsS76.drew) | exact HI164.out)) (by (with_reducible repeat (first | apply Kd.R_alloc | apply Kd.R_drewN | apply Kd.R_drew)); exact HO_11.out) (by decide)) hk (fun _ h => h.2)) (fun _ h => h.1)); have n1_ := Aside0.mk (Kd.R_mono (R_keepF (IsS76.apart (show IsS76 w _ g164 t180 t181 from by repeat (first | (with_reducible first | exact HI164.out | apply IsS76.alloc | apply IsS76.drewN | apply IsS76.drew) | exact HI164.out)) (by (with_reducible repeat (first | apply Kd.R_alloc | apply Kd.R_drewN | apply Kd.R_drew)); exact HO179.out) (by decide)) hk (fun _ h => h.2)) (fun _ h => h.1)); have n2_ := Aside0.mk (hb); have n3_ := Aside0.mk (hi); clear HO_11; clear HO179; clear HB; clear HI164; have HO_11 := n0_; have HO179 := n1_; have HB := n2_; have HI164 := n3_; clear n0_ n1_ n2_ n3_; (try clear hb); (try clear hb2); (try clear hk); (try clear hi)) | (go_at_call 36; (with_reducible refine (bloom_Filter_May.calls g164 t183 t184 a3 t185 t186 t187 w _ ?side1 ?side2 A54.out).mono ?_); (case side1 => repeat (first | (with_reducible first | exact HI164.out | apply IsS76.alloc | apply IsS76.drewN | apply IsS76.drew) | exact HI164.out)); (case side2 => repeat (first | (with_reducible first | exact HB.out | apply below_alloc | apply pw_below_drewN | apply below_drew1 | refine below_set ?_ (IsS76.ge HI164.out)) | exact HB.out)); rintro e w57 ⟨rfl, hi, hb, hk⟩; have n0_ := Aside0.mk (Kd.R_mono (R_keepF (IsS76.apartB (show IsS76 w _ g164 t183 t184 from by repeat (first | (with_reducible first | exact HI164.out | apply IsS76.alloc | apply IsS76.drewN | apply IsS76.drew) | exact HI164.out)) (by (with_reducible repeat (first | apply Kd.R_alloc | apply Kd.R_drewN | apply Kd.R_drew)); exact HO_11.out) (by decide)) hk (fun _ h => h.2)) (fun _ h => h.1)); have n1_ := Aside0.mk (Kd.R_mono (R_keepF (IsS76.apart (show IsS76 w _ g164 t183 t184 from by repeat (first | (with_reducible first | exact HI164.out | apply IsS76.alloc | apply IsS76.drewN | apply IsS76.drew) | exact HI164.out)) (by (with_reducible repeat (first | apply Kd.R_alloc | apply Kd.R_drewN | apply Kd.R_drew)); exact HO179.out) (by decide)) hk (fun _ h => h.2)) (fun _ h => h.1)); have n2_ := Aside0.mk (hb); have n3_ := Aside0.mk (hi); clear HO_11; clear HO179; clear HB; clear HI164; have HO_11 := n0_; have HO179 := n1_; have HB := n2_; have HI164 := n3_; clear n0_ n1_ n2_ n3_; (try clear hb); (try clear hb2); (try clear hk); (try clear hi)))
                   repeat (go_quiet (first | (go_at_call 35; (with_reducible refine (bloom_Filter_Count.calls g164 t180 t181 t182 t183 t184 w _ ?side1 ?side2 A52.out).mono ?_); (case side1 => repeat (first | (with_reducible first | exact HI164.out | apply IsS76.alloc | apply IsS76.drewN | apply IsS76.drew) | exact HI164.out)); (case side2 => repeat (first | (with_reducible first | exact HB.out | apply below_alloc | apply pw_below_drewN | apply below_drew1 | refine below_set ?_ (IsS76.ge HI164.out)) | exact HB.out)); rintro e w56 ⟨rfl, hi, hb, hk⟩; have n0_ := Aside0.mk (Kd.R_mono (R_keepF (IsS76.apartB (show IsS76 w _ g164 t180 t181 from by repeat (first | (with_reducible first | exact HI164.out | apply IsS76.alloc | apply IsS76.drewN | apply IsS76.drew) | exact HI164.out)) (by (with_reducible repeat (first | apply Kd.R_alloc | apply Kd.R_drewN | apply Kd.R_drew)); exact HO_11.out) (by decide)) hk (fun _ h => h.2)) (fun _ h => h.1)); have n1_ := Aside0.mk (Kd.R_mono (R_keepF (IsS76.apart (show IsS76 w _ g164 t180 t181 from by repeat (first | (with_reducible first | exact HI164.out | apply IsS76.alloc | apply IsS76.drewN | apply IsS76.drew) | exact HI164.out)) (by (with_reducible repeat (first | apply Kd.R_alloc | apply Kd.R_drewN | apply Kd.R_drew)); exact HO179.out) (by decide)) hk (fun _ h => h.2)) (fun _ h => h.1)); have n2_ := Aside0.mk (hb); have n3_ := Aside0.mk (hi); clear HO_11; clear HO179; clear HB; clear HI164; have HO_11 := n0_; have HO179 := n1_; have HB := n2_; have HI164 := n3_; clear n0_ n1_ n2_ n3_; (try clear hb); (try clear hb2); (try clear hk); (try clear hi)) | (go_at_call 36; (with_reducible refine (bloom_Filter_May.calls g164 t183 t184 a3 t185 t186 t187 w _ ?side1 ?side2 A54.out).mono ?_); (case side1 => repeat (first | (with_reducible first | exact HI164.out | apply IsS76.alloc | apply IsS76.drewN | apply IsS76.drew) | exact HI164.out)); (case side2 => repeat (first | (with_reducible first | exact HB.out | apply below_alloc | apply pw_below_drewN | apply below_drew1 | refine below_set ?_ (IsS76.ge HI164.out)) | exact HB.out)); rintro e w57 ⟨rfl, hi, hb, hk⟩; have n0_ := Aside0.mk (Kd.R_mono (R_keepF (IsS76.apartB (show IsS76 w _ g164 t183 t184 from by repeat (first | (with_reducible first | exact HI164.out | apply IsS76.alloc | apply IsS76.drewN | apply IsS76.drew) | exact HI164.out)) (by (with_reducible repeat (first | apply Kd.R_alloc | apply Kd.R_drewN | apply Kd.R_drew)); exact HO_11.out) (by decide)) hk (fun _ h => h.2)) (fun _ h => h.1)); have n1_ := Aside0.mk (Kd.R_mono (R_keepF (IsS76.apart (show IsS76 w _ g164 t183 t184 from by repeat (first | (with_reducible first | exact HI164.out | apply IsS76.alloc | apply IsS76.drewN | apply IsS76.drew) | exact HI164.out)) (by (with_reducible repeat (first | apply Kd.R_alloc | apply Kd.R_drewN | apply Kd.R_drew)); exact HO179.out) (by decide)) hk (fun _ h => h.2)) (fun _ h => h.1)); have n2_ := Aside0.mk (hb); have n3_ := Aside0.mk (hi); clear HO_11; clear HO179; clear HB; clear HI164; have HO_11 := n0_; have HO179 := n1_; have HB := n2_; have HI164 := n3_; clear n0_ n1_ n2_ n3_; (try clear hb); (try clear hb2); (try clear hk); (try clear hi))); try go_wp2_with (first | (go_at_call 35; (with_reducible refine (bloom_Filter_Count.calls g164 t180 t181 t182 t183 t184 w _ ?side1 ?side2 A52.out).mono ?_); (case side1 => repeat (first | (with_reducible first | exact HI164.out | apply IsS76.alloc | apply IsS76.drewN | apply IsS76.drew) | exact HI164.out)); (case side2 => repeat (first | (with_reducible first | exact HB.out | apply below_alloc | apply pw_below_drewN | apply below_drew1 | refine below_set ?_ (IsS76.ge HI164.out)) | exact HB.out)); rintro e w56 ⟨rfl, hi, hb, hk⟩; have n0_ := Aside0.mk (Kd.R_mono (R_keepF (IsS76.apartB (show IsS76 w _ g164 t180 t181 from by repeat (first | (with_reducible first | exact HI164.out | apply IsS76.alloc | apply IsS76.drewN | apply IsS76.drew) | exact HI164.out)) (by (with_reducible repeat (first | apply Kd.R_alloc | apply Kd.R_drewN | apply Kd.R_drew)); exact HO_11.out) (by decide)) hk (fun _ h => h.2)) (fun _ h => h.1)); have n1_ := Aside0.mk (Kd.R_mono (R_keepF (IsS76.apart (show IsS76 w _ g164 t180 t181 from by repeat (first | (with_reducible first | exact HI164.out | apply IsS76.alloc | apply IsS76.drewN | apply IsS76.drew) | exact HI164.out)) (by (with_reducible repeat (first | apply Kd.R_alloc | apply Kd.R_drewN | apply Kd.R_drew)); exact HO179.out) (by decide)) hk (fun _ h => h.2)) (fun _ h => h.1)); have n2_ := Aside0.mk (hb); have n3_ := Aside0.mk (hi); clear HO_11; clear HO179; clear HB; clear HI164; have HO_11 := n0_; have HO179 := n1_; have HB := n2_; have HI164 := n3_; clear n0_ n1_ n2_ n3_; (try clear hb); (try clear hb2); (try clear hk); (try clear hi)) | (go_at_call 36; (with_reducible refine (bloom_Filter_May.calls g164 t183 t184 a3 t185 t186 t187 w _ ?side1 ?side2 A54.out).mono ?_); (case side1 => repeat (first | (with_reducible first | exact HI164.out | apply IsS76.alloc | apply IsS76.drewN | apply IsS76.drew) | exact HI164.out)); (case side2 => repeat (first | (with_reducible first | exact HB.out | apply below_alloc | apply pw_below_drewN | apply below_drew1 | refine below_set ?_ (IsS76.ge HI164.out)) | exact HB.out)); rintro e w57 ⟨rfl, hi, hb, hk⟩; have n0_ := Aside0.mk (Kd.R_mono (R_keepF (IsS76.apartB (show IsS76 w _ g164 t183 t184 from by repeat (first | (with_reducible first | exact HI164.out | apply IsS76.alloc | apply IsS76.drewN | apply IsS76.drew) | exact HI164.out)) (by (with_reducible repeat (first | apply Kd.R_alloc | apply Kd.R_drewN | apply Kd.R_drew)); exact HO_11.out) (by decide)) hk (fun _ h => h.2)) (fun _ h => h.1)); have n1_ := Aside0.mk (Kd.R_mono (R_keepF (IsS76.apart (show IsS76 w _ g164 t183 t184 from by repeat (first | (with_reducible first | exact HI164.out | apply IsS76.alloc | apply IsS76.drewN | apply IsS76.drew) | exact HI164.out)) (by (with_reducible repeat (first | apply Kd.R_alloc | apply Kd.R_drewN | apply Kd.R_drew)); exact HO179.out) (by decide)) hk (fun _ h => h.2)) (fun _ h => h.1)); have n2_ := Aside0.mk (hb); have n3_ := Aside0.mk (hi); clear HO_11; clear HO179; clear HB; clear HI164; have HO_11 := n0_; have HO179 := n1_; have HB := n2_; have HI164 := n3_; clear n0_ n1_ n2_ n3_; (try clear hb); (try clear hb2); (try clear hk); (try clear hi))))
                   go_meet
                   case rel => exact ⟨_, ((t185 != x16_4)), (by first | rfl | (simp; done) | (simp [*]; done)), H', ⟨by have := HJ7.out; have := HJ15.out; have := HK3.out; have := HK4.out; first | omega | exact Nat.le_refl _⟩, ⟨by (with_reducible repeat (first | apply Kd.R_alloc | apply Kd.R_drewN | apply Kd.R_drew)); exact HO_11.out⟩, ⟨by (with_reducible repeat (first | apply Kd.R_alloc | apply Kd.R_drewN | apply Kd.R_drew)); exact HO179.out⟩, ⟨by repeat (first | (with_reducible first | exact HB.out | apply below_alloc | apply pw_below_drewN | apply below_drew1 | refine below_set ?_ (IsS76.ge HI164.out)) | exact HB.out)⟩⟩
                  ·rw [if_neg c53] at H
                   have c53b0 : (t182 == x12_3) = false := beq_eq_false_iff_ne.mpr c53
                   have c53b1 : (t182 != x12_3) = true := bne_iff_ne.mpr c53
                   have H' := Aside0.mk H
                   clear H
                   obtain ⟨Ao58, co58, eo58⟩ := Kd.R_slice HO179.out
                   subst eo58
                   go_wp2_with (first | (go_at_call 35; (with_reducible refine (bloom_Filter_Count.calls g164 t180 t181 t182 t183 t184 w _ ?side1 ?side2 A52.out).mono ?_); (case side1 => repeat (first | (with_reducible first | exact HI164.out | apply IsS76.alloc | apply IsS76.drewN | apply IsS76.drew) | exact HI164.out)); (case side2 => repeat (first | (with_reducible first | exact HB.out | apply below_alloc | apply pw_below_drewN | apply below_drew1 | refine below_set ?_ (IsS76.ge HI164.out)) | exact HB.out)); rintro e w59 ⟨rfl, hi, hb, hk⟩; have n0_ := Aside0.mk (Kd.R_mono (R_keepF (IsS76.apartB (show IsS76 w _ g164 t180 t181 from by repeat (first | (with_reducible first | exact HI164.out | apply IsS76.alloc | apply IsS76.drewN | apply IsS76.drew) | exact HI164.out)) (by (with_reducible repeat (first | apply Kd.R_alloc | apply Kd.R_drewN | apply Kd.R_drew)); exact HO_11.out) (by decide)) hk (fun _ h => h.2)) (fun _ h => h.1)); have n1_ := Aside0.mk (Kd.R_mono (R_keepF (IsS76.apart (show IsS76 w _ g164 t180 t181 from by repeat (first | (with_reducible first | exact HI164.out | apply IsS76.alloc | apply IsS76.drewN | apply IsS76.drew) | exact HI164.out)) (by (with_reducible repeat (first | apply Kd.R_alloc | apply Kd.R_drewN | apply Kd.R_drew)); exact HO179.out) (by decide)) hk (fun _ h => h.2)) (fun _ h => h.1)); have n2_ := Aside0.mk (hb); have n3_ := Aside0.mk (hi); clear HO_11; clear HO179; clear HB; clear HI164; have HO_11 := n0_; have HO179 := n1_; have HB := n2_; have HI164 := n3_; clear n0_ n1_ n2_ n3_; (try clear hb); (try clear hb2); (try clear hk); (try clear hi)))
                   repeat (go_quiet (first | (go_at_call 35; (with_reducible refine (bloom_Filter_Count.calls g164 t180 t181 t182 t183 t184 w _ ?side1 ?side2 A52.out).mono ?_); (case side1 => repeat (first | (with_reducible first | exact HI164.out | apply IsS76.alloc | apply IsS76.drewN | apply IsS76.drew) | exact HI164.out)); (case side2 => repeat (first | (with_reducible first | exact HB.out | apply below_alloc | apply pw_below_drewN | apply below_drew1 | refine below_set ?_ (IsS76.ge HI164.out)) | exact HB.out)); rintro e w59 ⟨rfl, hi, hb, hk⟩; have n0_ := Aside0.mk (Kd.R_mono (R_keepF (IsS76.apartB (show IsS76 w _ g164 t180 t181 from by repeat (first | (with_reducible first | exact HI164.out | apply IsS76.alloc | apply IsS76.drewN | apply IsS76.drew) | exact HI164.out)) (by (with_reducible repeat (first | apply Kd.R_alloc | apply Kd.R_drewN | apply Kd.R_drew)); exact HO_11.out) (by decide)) hk (fun _ h => h.2)) (fun _ h => h.1)); have n1_ := Aside0.mk (Kd.R_mono (R_keepF (IsS76.apart (show IsS76 w _ g164 t180 t181 from by repeat (first | (with_reducible first | exact HI164.out | apply IsS76.alloc | apply IsS76.drewN | apply IsS76.drew) | exact HI164.out)) (by (with_reducible repeat (first | apply Kd.R_alloc | apply Kd.R_drewN | apply Kd.R_drew)); exact HO179.out) (by decide)) hk (fun _ h => h.2)) (fun _ h => h.1)); have n2_ := Aside0.mk (hb); have n3_ := Aside0.mk (hi); clear HO_11; clear HO179; clear HB; clear HI164; have HO_11 := n0_; have HO179 := n1_; have HB := n2_; have HI164 := n3_; clear n0_ n1_ n2_ n3_; (try clear hb); (try clear hb2); (try clear hk); (try clear hi))); try go_wp2_with (first | (go_at_call 35; (with_reducible refine (bloom_Filter_Count.calls g164 t180 t181 t182 t183 t184 w _ ?side1 ?side2 A52.out).mono ?_); (case side1 => repeat (first | (with_reducible first | exact HI164.out | apply IsS76.alloc | apply IsS76.drewN | apply IsS76.drew) | exact HI164.out)); (case side2 => repeat (first | (with_reducible first | exact HB.out | apply below_alloc | apply pw_below_drewN | apply below_drew1 | refine below_set ?_ (IsS76.ge HI164.out)) | exact HB.out)); rintro e w59 ⟨rfl, hi, hb, hk⟩; have n0_ := Aside0.mk (Kd.R_mono (R_keepF (IsS76.apartB (show IsS76 w _ g164 t180 t181 from by repeat (first | (with_reducible first | exact HI164.out | apply IsS76.alloc | apply IsS76.drewN | apply IsS76.drew) | exact HI164.out)) (by (with_reducible repeat (first | apply Kd.R_alloc | apply Kd.R_drewN | apply Kd.R_drew)); exact HO_11.out) (by decide)) hk (fun _ h => h.2)) (fun _ h => h.1)); have n1_ := Aside0.mk (Kd.R_mono (R_keepF (IsS76.apart (show IsS76 w _ g164 t180 t181 from by repeat (first | (with_reducible first | exact HI164.out | apply IsS76.alloc | apply IsS76.drewN | apply IsS76.drew) | exact HI164.out)) (by (with_reducible repeat (first | apply Kd.R_alloc | apply Kd.R_drewN | apply Kd.R_drew)); exact HO179.out) (by decide)) hk (fun _ h => h.2)) (fun _ h => h.1)); have n2_ := Aside0.mk (hb); have n3_ := Aside0.mk (hi); clear HO_11; clear HO179; clear HB; clear HI164; have HO_11 := n0_; have HO179 := n1_; have HB := n2_; have HI164 := n3_; clear n0_ n1_ n2_ n3_; (try clear hb); (try clear hb2); (try clear hk); (try clear hi))))
                   go_meet
                   case rel => exact ⟨_, (true), (by first | rfl | (simp; done) | (simp [*]; done)), H', ⟨by have := HJ7.out; have := HJ15.out; have := HK3.out; have := HK4.out; first | omega | exact Nat.le_refl _⟩, ⟨by (with_reducible repeat (first | apply Kd.R_alloc | apply Kd.R_drewN | apply Kd.R_drew)); exact HO_11.out⟩, ⟨by (with_reducible repeat (first | apply Kd.R_alloc | apply Kd.R_drewN | apply Kd.R_drew)); exact HO179.out⟩, ⟨by repeat (first | (with_reducible first | exact HB.out | apply below_alloc | apply pw_below_drewN | apply below_drew1 | refine below_set ?_ (IsS76.ge HI164.out)) | exact HB.out)⟩⟩
                 ·rw [if_neg c51] at H
                  have c51b0 : ((t177.length : Int) == x12_3) = false := beq_eq_false_iff_ne.mpr c51
                  have c51b1 : ((t177.length : Int) != x12_3) = true := bne_iff_ne.mpr c51
                  (first | rw [c51b0] | (simp only [i64_w, i32_w]; rw [c51b0]) | skip)
                  have H' := Aside0.mk H
                  clear H
                  obtain ⟨Ao60, co60, eo60⟩ := Kd.R_slice HO179.out
                  subst eo60
                  go_wp2
                  repeat (go_quiet (fail); try go_wp2)
                  go_meet
                  case rel => exact ⟨_, (true), (by first | rfl | (simp; done) | (simp [*]; done)), H', ⟨by have := HJ7.out; have := HJ15.out; have := HK3.out; have := HK4.out; first | omega | exact Nat.le_refl _⟩, ⟨by (with_reducible repeat (first | apply Kd.R_alloc | apply Kd.R_drewN | apply Kd.R_drew)); exact HO_11.out⟩, ⟨by (with_reducible repeat (first | apply Kd.R_alloc | apply Kd.R_drewN | apply Kd.R_drew)); exact HO179.out⟩, ⟨by repeat (first | (with_reducible first | exact HB.out | apply below_alloc | apply pw_below_drewN | apply below_drew1 | refine below_set ?_ (IsS76.ge HI164.out)) | exact HB.out)⟩⟩
                case rest =>
                 clear HC49
                 try clear c1
                 try clear p1
                 try clear q1
                 try clear hx1
                 try clear c2
                 try clear p2
                 try clear c3
                 try clear p3
                 try clear q3
                 try clear hx3
                 try clear c4
                 try clear c5
                 try clear c6
                 try clear p6
                 try clear c11
                 try clear c11b0
                 try clear c12
                 try clear c12b0
                 try clear c13
                 try clear c13b0
                 try clear c14
                 try clear c15
                 try clear c15b0
                 try clear c15b1
                 try clear p16
                 try clear q16
                 try clear hx16
                 try clear c17
                 try clear c17b0
                 try clear c17b1
                 try clear p17
                 try clear q17
                 try clear hx17
                 try clear c18
                 try clear c18b0
                 try clear c18b1
                 try clear c19
                 try clear c20
                 try clear c20b0
                 try clear c20b1
                 try clear c21
                 try clear c21b0
                 try clear c21b1
                 try clear c22
                 try clear c22b0
                 try clear c22b1
                 try clear c25
                 try clear c25b0
                 try clear c26
                 try clear c26b0
                 try clear c29
                 try clear c29b0
                 try clear c30
                 try clear c30b0
                 try clear c31
                 try clear c31b0
                 try clear c33
                 try clear c33b0
                 try clear c34
                 try clear c34b0
                 try clear q35
                 try clear c36
                 try clear p38
                 try clear q38
                 try clear hx38
                 try clear hf38
                 try clear c42
                 try clear c42b0
                 try clear c43
                 try clear c45
                 try clear c45b0
                 try clear c46
                 try clear c46b0
                 try clear c51
                 try clear c51b0
                 try clear c51b1
                 try clear c53
                 try clear c53b0
                 try clear c53b1
                 try clear hx168_0
                 try clear hx171_0
                 try clear hx173_0
                 try clear hx176_0
                 try clear hx38_0
                 try clear p1
                 try clear p16
                 try clear p168
                 try clear p17
                 try clear p171
                 try clear p173
                 try clear p176
                 try clear p2
                 try clear p3
                 try clear p38
                 try clear p6
                 try clear q1
                 try clear q16
                 try clear q168
                 try clear q17
                 try clear q171
                 try clear q173
                 try clear q176
                 try clear q3
                 try clear q35
                 try clear q38
                 obtain ⟨kq, x139_48, rfl, HA, HJ48, HO_11, HO_18, HB⟩ := hcut
                 cases kq with
                 | zero => exact absurd HA.out (by simp [cellaretlaw7_BloomSays.j5])
                 | succ kj48 =>
                  have H := HA.out
                  clear HA
                  simp only [cellaretlaw7_BloomSays.j5] at H
                  by_cases c61 : x139_48 = true
                  ·subst c61
                   have H1 : (some false) = some r := by rw [if_pos rfl] at H; exact H
                   clear H
                   have H := H1
                   clear H1
                   obtain rfl := Option.some.inj H
                   go_wp2
                   repeat (go_quiet (fail); try go_wp2)
                   go_ret
                   exact ⟨by first | rfl | (simp [errW_none, errW_some] <;> rfl) | (simp [*, errW_none, errW_some] <;> rfl), by repeat (first | (with_reducible first | exact HB.out | apply below_alloc | apply pw_below_drewN | apply below_drew1) | exact HB.out)⟩
                  ·replace c61 := Bool.eq_false_iff.mpr c61
                   subst c61
                   have H1 : (cellaretlaw7_BloomSays.l3 kj48 a0 x11_3 t177 0) = some r := by rw [if_neg (show ¬ (false = true) by decide)] at H; exact H
                   clear H
                   have H := H1
                   clear H1
                   have H' := Aside0.mk H
                   clear H
                   go_wp2
                   repeat (go_quiet (fail); try go_wp2)
                   go_loopg [19] kj48 (fun kq v19 w' => ∃ (x19_6 : Int), v19 = .int .i64 x19_6 ∧ Aside0 (cellaretlaw7_BloomSays.l3 kq a0 x11_3 t177 x19_6 = some r) ∧ Aside0 (kq ≤ kj48) ∧ Aside0 (Kd.R Kd.bool 4 w' (g164 + 1) (fun _ => True) v166 x11_3) ∧ Aside0 (Kd.R (Kd.int .i64) 3 w' w.heap.size (fun _ => True) v178 t177) ∧ Aside0 (Below w.heap.size w w'))
                   case atStart => exact ⟨(0), (by first | rfl | (simp; done) | (simp [*]; done)), H', ⟨Nat.le_refl _⟩, ⟨by (with_reducible repeat (first | apply Kd.R_alloc | apply Kd.R_drewN | apply Kd.R_drew)); exact HO_11.out⟩, ⟨by (with_reducible repeat (first | apply Kd.R_alloc | apply Kd.R_drewN | apply Kd.R_drew)); exact HO_18.out⟩, ⟨by repeat (first | (with_reducible first | exact HB.out | apply below_alloc | apply pw_below_drewN | apply below_drew1) | exact HB.out)⟩⟩
                   case round =>
                    clear H'
                    try clear c1
                    try clear p1
                    try clear q1
                    try clear hx1
                    try clear c2
                    try clear p2
                    try clear c3
                    try clear p3
                    try clear q3
                    try clear hx3
                    try clear c4
                    try clear c5
                    try clear c6
                    try clear p6
                    try clear c11
                    try clear c11b0
                    try clear c12
                    try clear c12b0
                    try clear c13
                    try clear c13b0
                    try clear c14
                    try clear c15
                    try clear c15b0
                    try clear c15b1
                    try clear p16
                    try clear q16
                    try clear hx16
                    try clear c17
                    try clear c17b0
                    try clear c17b1
                    try clear p17
                    try clear q17
                    try clear hx17
                    try clear c18
                    try clear c18b0
                    try clear c18b1
                    try clear c19
                    try clear c20
                    try clear c20b0
                    try clear c20b1
                    try clear c21
                    try clear c21b0
                    try clear c21b1
                    try clear c22
                    try clear c22b0
                    try clear c22b1
                    try clear c25
                    try clear c25b0
                    try clear c26
                    try clear c26b0
                    try clear c29
                    try clear c29b0
                    try clear c30
                    try clear c30b0
                    try clear c31
                    try clear c31b0
                    try clear c33
                    try clear c33b0
                    try clear c34
                    try clear c34b0
                    try clear q35
                    try clear c36
                    try clear p38
                    try clear q38
                    try clear hx38
                    try clear hf38
                    try clear c42
                    try clear c42b0
                    try clear c43
                    try clear c45
                    try clear c45b0
                    try clear c46
                    try clear c46b0
                    try clear c51
                    try clear c51b0
                    try clear c51b1
                    try clear c53
                    try clear c53b0
                    try clear c53b1
                    try clear c61
                    try clear hx168_0
                    try clear hx171_0
                    try clear hx173_0
                    try clear hx176_0
                    try clear hx38_0
                    try clear p1
                    try clear p16
                    try clear p168
                    try clear p17
                    try clear p171
                    try clear p173
                    try clear p176
                    try clear p2
                    try clear p3
                    try clear p38
                    try clear p6
                    try clear q1
                    try clear q16
                    try clear q168
                    try clear q17
                    try clear q171
                    try clear q173
                    try clear q176
                    try clear q3
                    try clear q35
                    try clear q38
                    obtain ⟨x19_6, rfl, HA, HK6, HO_11, HO_18, HB⟩ := hrel
                    cases gk with
                    | zero => exact absurd HA.out (by simp [cellaretlaw7_BloomSays.l3])
                    | succ k6 =>
                     have H := HA.out
                     clear HA
                     simp only [cellaretlaw7_BloomSays.l3] at H
                     by_cases c62 : x19_6 < (t177.length : Int)
                     ·rw [if_pos c62] at H
                      have c62b0 : decide (x19_6 < (t177.length : Int)) = true := decide_eq_true c62
                      clear c62
                      by_cases c63 : 0 ≤ x19_6
                      ·rw [if_pos c63] at H
                       have c63b0 : decide (0 ≤ x19_6) = true := decide_eq_true c63
                       clear c63
                       by_cases c64 : (rd t177 x19_6) < 0
                       ·rw [if_pos c64] at H
                        have c64b0 : decide ((rd t177 x19_6) < 0) = true := decide_eq_true c64
                        clear c64
                        obtain rfl := Option.some.inj H
                        obtain ⟨Ao65, co65, eo65⟩ := Kd.R_slice HO_18.out
                        subst eo65
                        have p188 : 0 ≤ (x19_6 : Int) := of_decide_eq_true (by first | (with_reducible assumption) | assumption)
                        have q188 : x19_6 < (t177.length : Int) := of_decide_eq_true (by first | (with_reducible assumption) | assumption)
                        obtain ⟨ad188, e188, hx188_0⟩ := Kd.at_int (Kd.R_reads' HO_18.out).2.2 x19_6 p188 q188
                        cases e188
                        replace p188 := eq_true p188
                        replace q188 := eq_true q188
                        go_wp2
                        repeat (go_quiet (fail); try go_wp2)
                        go_ret
                        exact ⟨by first | rfl | (simp [errW_none, errW_some] <;> rfl) | (simp [*, errW_none, errW_some] <;> rfl), by repeat (first | (with_reducible first | exact HB.out | apply below_alloc | apply pw_below_drewN | apply below_drew1) | exact HB.out)⟩
                       ·rw [if_neg c64] at H
                        have c64b0 : decide ((rd t177 x19_6) < 0) = false := decide_eq_false c64
                        clear c64
                        by_cases c66 : (rd t177 x19_6) ≥ a0
                        ·rw [if_pos c66] at H
                         have c66b0 : decide (a0 ≤ (rd t177 x19_6)) = true := decide_eq_true c66
                         clear c66
                         obtain rfl := Option.some.inj H
                         obtain ⟨Ao67, co67, eo67⟩ := Kd.R_slice HO_18.out
                         subst eo67
                         have p188 : 0 ≤ (x19_6 : Int) := of_decide_eq_true (by first | (with_reducible assumption) | assumption)
                         have q188 : x19_6 < (t177.length : Int) := of_decide_eq_true (by first | (with_reducible assumption) | assumption)
                         obtain ⟨ad188, e188, hx188_0⟩ := Kd.at_int (Kd.R_reads' HO_18.out).2.2 x19_6 p188 q188
                         cases e188
                         replace p188 := eq_true p188
                         replace q188 := eq_true q188
                         have p189 : 0 ≤ (x19_6 : Int) := of_decide_eq_true (by first | (with_reducible assumption) | assumption)
                         have q189 : x19_6 < (t177.length : Int) := of_decide_eq_true (by first | (with_reducible assumption) | assumption)
                         obtain ⟨ad189, e189, hx189_0⟩ := Kd.at_int (Kd.R_reads' HO_18.out).2.2 x19_6 p189 q189
                         obtain rfl : ad188 = ad189 := (by injection e189)
                         replace p189 := eq_true p189
                         replace q189 := eq_true q189
                         go_wp2
                         repeat (go_quiet (fail); try go_wp2)
                         go_ret
                         exact ⟨by first | rfl | (simp [errW_none, errW_some] <;> rfl) | (simp [*, errW_none, errW_some] <;> rfl), by repeat (first | (with_reducible first | exact HB.out | apply below_alloc | apply pw_below_drewN | apply below_drew1) | exact HB.out)⟩
                        ·rw [if_neg c66] at H
                         have c66b0 : decide (a0 ≤ (rd t177 x19_6)) = false := decide_eq_false c66
                         clear c66
                         by_cases c68 : 0 ≤ (rd t177 x19_6)
                         ·rw [if_pos c68] at H
                          have c68b0 : decide (0 ≤ (rd t177 x19_6)) = true := decide_eq_true c68
                          clear c68
                          by_cases c69 : (rd t177 x19_6) < (x11_3.length : Int)
                          ·rw [if_pos c69] at H
                           have c69b0 : decide ((rd t177 x19_6) < (x11_3.length : Int)) = true := decide_eq_true c69
                           clear c69
                           obtain ⟨bq70, hbq70⟩ : ∃ b_ : Bool, b_ = (rdOf false x11_3 (rd t177 x19_6)) := ⟨_, rfl⟩
                           replace H : (if (bq70 = true) then (if x19_6 > 0 then (if 0 ≤ (wrap64 (x19_6 - 1)) then (if (wrap64 (x19_6 - 1)) < (t177.length : Int) then (if (rd t177 x19_6) ≤ (rd t177 (wrap64 (x19_6 - 1))) then (some false) else (cellaretlaw7_BloomSays.l3 k6 a0 x11_3 t177 (wrap64 (x19_6 + 1)))) else (none)) else (none)) else (cellaretlaw7_BloomSays.l3 k6 a0 x11_3 t177 (wrap64 (x19_6 + 1)))) else (some false)) = some r := by rw [← hbq70] at H; exact H
                           have Nbq70 := Aside0.mk hbq70
                           clear hbq70
                           by_cases c71 : (bq70 = true)
                           ·subst c71
                            have H1 : (if x19_6 > 0 then (if 0 ≤ (wrap64 (x19_6 - 1)) then (if (wrap64 (x19_6 - 1)) < (t177.length : Int) then (if (rd t177 x19_6) ≤ (rd t177 (wrap64 (x19_6 - 1))) then (some false) else (cellaretlaw7_BloomSays.l3 k6 a0 x11_3 t177 (wrap64 (x19_6 + 1)))) else (none)) else (none)) else (cellaretlaw7_BloomSays.l3 k6 a0 x11_3 t177 (wrap64 (x19_6 + 1)))) = some r := by rw [if_pos rfl] at H; exact H
                            clear H
                            have H := H1
                            clear H1
                            by_cases c72 : x19_6 > 0
                            ·rw [if_pos c72] at H
                             have c72b0 : decide (0 < x19_6) = true := decide_eq_true c72
                             clear c72
                             obtain ⟨ji73, hji73⟩ : ∃ j_ : Int, (wrap64 (x19_6 - 1)) = j_ := ⟨_, rfl⟩
                             replace H : (if 0 ≤ (ji73) then (if (ji73) < (t177.length : Int) then (if (rd t177 x19_6) ≤ (rd t177 (ji73)) then (some false) else (cellaretlaw7_BloomSays.l3 k6 a0 x11_3 t177 (wrap64 (x19_6 + 1)))) else (none)) else (none)) = some r := by first | (rw [hji73] at H; exact H) | (simp only [hji73] at H ⊢; exact H)
                             have hji73w : (IntKind.i64.wrap (x19_6 - 1)) = ji73 := (i64_w _).trans hji73
                             by_cases c74 : 0 ≤ (ji73)
                             ·rw [if_pos c74] at H
                              have c74b0 : decide (0 ≤ (ji73)) = true := decide_eq_true c74
                              clear c74
                              by_cases c75 : (ji73) < (t177.length : Int)
                              ·rw [if_pos c75] at H
                               have c75b0 : decide ((ji73) < (t177.length : Int)) = true := decide_eq_true c75
                               clear c75
                               by_cases c76 : (rd t177 x19_6) ≤ (rd t177 (ji73))
                               ·rw [if_pos c76] at H
                                have c76b0 : decide ((rd t177 x19_6) ≤ (rd t177 (ji73))) = true := decide_eq_true c76
                                clear c76
                                obtain rfl := Option.some.inj H
                                obtain ⟨Ao77, co77, eo77⟩ := Kd.R_slice HO_18.out
                                subst eo77
                                have p188 : 0 ≤ (x19_6 : Int) := of_decide_eq_true (by first | (with_reducible assumption) | assumption)
                                have q188 : x19_6 < (t177.length : Int) := of_decide_eq_true (by first | (with_reducible assumption) | assumption)
                                obtain ⟨ad188, e188, hx188_0⟩ := Kd.at_int (Kd.R_reads' HO_18.out).2.2 x19_6 p188 q188
                                cases e188
                                replace p188 := eq_true p188
                                replace q188 := eq_true q188
                                have p189 : 0 ≤ (x19_6 : Int) := of_decide_eq_true (by first | (with_reducible assumption) | assumption)
                                have q189 : x19_6 < (t177.length : Int) := of_decide_eq_true (by first | (with_reducible assumption) | assumption)
                                obtain ⟨ad189, e189, hx189_0⟩ := Kd.at_int (Kd.R_reads' HO_18.out).2.2 x19_6 p189 q189
                                obtain rfl : ad188 = ad189 := (by injection e189)
                                replace p189 := eq_true p189
                                replace q189 := eq_true q189
                                have p190 : 0 ≤ (x19_6 : Int) := of_decide_eq_true (by first | (with_reducible assumption) | assumption)
                                have q190 : x19_6 < (t177.length : Int) := of_decide_eq_true (by first | (with_reducible assumption) | assumption)
                                obtain ⟨ad190, e190, hx190_0⟩ := Kd.at_int (Kd.R_reads' HO_18.out).2.2 x19_6 p190 q190
                                obtain rfl : ad188 = ad190 := (by injection e190)
                                replace p190 := eq_true p190
                                replace q190 := eq_true q190
                                obtain ⟨Ao78, co78, eo78⟩ := Kd.R_slice HO_11.out
                                subst eo78
                                have p191 : 0 ≤ ((rd t177 x19_6) : Int) := of_decide_eq_true (by first | (with_reducible assumption) | assumption)
                                have q191 : (rd t177 x19_6) < (x11_3.length : Int) := of_decide_eq_true (by first | (with_reducible assumption) | assumption)
                                obtain ⟨ad191, e191, hx191_0⟩ := Kd.at_bool (Kd.R_reads' HO_11.out).2.2 (rd t177 x19_6) p191 q191
                                (try rw [← Nbq70.out] at hx191_0)
                                cases e191
                                replace p191 := eq_true p191
                                replace q191 := eq_true q191
                                have p192 : 0 ≤ (x19_6 : Int) := of_decide_eq_true (by first | (with_reducible assumption) | assumption)
                                have q192 : x19_6 < (t177.length : Int) := of_decide_eq_true (by first | (with_reducible assumption) | assumption)
                                obtain ⟨ad192, e192, hx192_0⟩ := Kd.at_int (Kd.R_reads' HO_18.out).2.2 x19_6 p192 q192
                                obtain rfl : ad188 = ad192 := (by injection e192)
                                replace p192 := eq_true p192
                                replace q192 := eq_true q192
                                have p193 : 0 ≤ ((ji73) : Int) := of_decide_eq_true (by first | (with_reducible assumption) | assumption)
                                have q193 : (ji73) < (t177.length : Int) := of_decide_eq_true (by first | (with_reducible assumption) | assumption)
                                obtain ⟨ad193, e193, hx193_0⟩ := Kd.at_int (Kd.R_reads' HO_18.out).2.2 (ji73) p193 q193
                                obtain rfl : ad188 = ad193 := (by injection e193)
                                replace p193 := eq_true p193
                                replace q193 := eq_true q193
                                go_wp2
                                repeat (go_quiet (fail); try go_wp2)
                                go_ret
                                exact ⟨by first | rfl | (simp [errW_none, errW_some] <;> rfl) | (simp only [← hji73]; first | rfl | (simp [errW_none, errW_some] <;> rfl)) | (simp [*, errW_none, errW_some] <;> rfl), by repeat (first | (with_reducible first | exact HB.out | apply below_alloc | apply pw_below_drewN | apply below_drew1) | exact HB.out)⟩
                               ·rw [if_neg c76] at H
                                have c76b0 : decide ((rd t177 x19_6) ≤ (rd t177 (ji73))) = false := decide_eq_false c76
                                clear c76
                                have H' := Aside0.mk H
                                clear H
                                obtain ⟨Ao79, co79, eo79⟩ := Kd.R_slice HO_18.out
                                subst eo79
                                have p188 : 0 ≤ (x19_6 : Int) := of_decide_eq_true (by first | (with_reducible assumption) | assumption)
                                have q188 : x19_6 < (t177.length : Int) := of_decide_eq_true (by first | (with_reducible assumption) | assumption)
                                obtain ⟨ad188, e188, hx188_0⟩ := Kd.at_int (Kd.R_reads' HO_18.out).2.2 x19_6 p188 q188
                                cases e188
                                replace p188 := eq_true p188
                                replace q188 := eq_true q188
                                have p189 : 0 ≤ (x19_6 : Int) := of_decide_eq_true (by first | (with_reducible assumption) | assumption)
                                have q189 : x19_6 < (t177.length : Int) := of_decide_eq_true (by first | (with_reducible assumption) | assumption)
                                obtain ⟨ad189, e189, hx189_0⟩ := Kd.at_int (Kd.R_reads' HO_18.out).2.2 x19_6 p189 q189
                                obtain rfl : ad188 = ad189 := (by injection e189)
                                replace p189 := eq_true p189
                                replace q189 := eq_true q189
                                have p190 : 0 ≤ (x19_6 : Int) := of_decide_eq_true (by first | (with_reducible assumption) | assumption)
                                have q190 : x19_6 < (t177.length : Int) := of_decide_eq_true (by first | (with_reducible assumption) | assumption)
                                obtain ⟨ad190, e190, hx190_0⟩ := Kd.at_int (Kd.R_reads' HO_18.out).2.2 x19_6 p190 q190
                                obtain rfl : ad188 = ad190 := (by injection e190)
                                replace p190 := eq_true p190
                                replace q190 := eq_true q190
                                obtain ⟨Ao80, co80, eo80⟩ := Kd.R_slice HO_11.out
                                subst eo80
                                have p191 : 0 ≤ ((rd t177 x19_6) : Int) := of_decide_eq_true (by first | (with_reducible assumption) | assumption)
                                have q191 : (rd t177 x19_6) < (x11_3.length : Int) := of_decide_eq_true (by first | (with_reducible assumption) | assumption)
                                obtain ⟨ad191, e191, hx191_0⟩ := Kd.at_bool (Kd.R_reads' HO_11.out).2.2 (rd t177 x19_6) p191 q191
                                (try rw [← Nbq70.out] at hx191_0)
                                cases e191
                                replace p191 := eq_true p191
                                replace q191 := eq_true q191
                                have p192 : 0 ≤ (x19_6 : Int) := of_decide_eq_true (by first | (with_reducible assumption) | assumption)
                                have q192 : x19_6 < (t177.length : Int) := of_decide_eq_true (by first | (with_reducible assumption) | assumption)
                                obtain ⟨ad192, e192, hx192_0⟩ := Kd.at_int (Kd.R_reads' HO_18.out).2.2 x19_6 p192 q192
                                obtain rfl : ad188 = ad192 := (by injection e192)
                                replace p192 := eq_true p192
                                replace q192 := eq_true q192
                                have p193 : 0 ≤ ((ji73) : Int) := of_decide_eq_true (by first | (with_reducible assumption) | assumption)
                                have q193 : (ji73) < (t177.length : Int) := of_decide_eq_true (by first | (with_reducible assumption) | assumption)
                                obtain ⟨ad193, e193, hx193_0⟩ := Kd.at_int (Kd.R_reads' HO_18.out).2.2 (ji73) p193 q193
                                obtain rfl : ad188 = ad193 := (by injection e193)
                                replace p193 := eq_true p193
                                replace q193 := eq_true q193
                                go_wp2
                                repeat (go_quiet (fail); try go_wp2)
                                go_roundg k6
                                case measure => have := HJ7.out; have := HJ15.out; have := HK3.out; have := HK4.out; have := HJ48.out; have := HK6.out; omega
                                case rel => exact ⟨(wrap64 (x19_6 + 1)), (by first | rfl | (simp; done) | (simp [*]; done)), H', ⟨by have := HJ7.out; have := HJ15.out; have := HK3.out; have := HK4.out; have := HJ48.out; have := HK6.out; omega⟩, ⟨by (with_reducible repeat (first | apply Kd.R_alloc | apply Kd.R_drewN | apply Kd.R_drew)); exact HO_11.out⟩, ⟨by (with_reducible repeat (first | apply Kd.R_alloc | apply Kd.R_drewN | apply Kd.R_drew)); exact HO_18.out⟩, ⟨by repeat (first | (with_reducible first | exact HB.out | apply below_alloc | apply pw_below_drewN | apply below_drew1) | exact HB.out)⟩⟩
                              ·rw [if_neg c75] at H
                               exact absurd H (by simp)
                             ·rw [if_neg c74] at H
                              exact absurd H (by simp)
                            ·rw [if_neg c72] at H
                             have c72b0 : decide (0 < x19_6) = false := decide_eq_false c72
                             clear c72
                             have H' := Aside0.mk H
                             clear H
                             obtain ⟨Ao81, co81, eo81⟩ := Kd.R_slice HO_18.out
                             subst eo81
                             have p188 : 0 ≤ (x19_6 : Int) := of_decide_eq_true (by first | (with_reducible assumption) | assumption)
                             have q188 : x19_6 < (t177.length : Int) := of_decide_eq_true (by first | (with_reducible assumption) | assumption)
                             obtain ⟨ad188, e188, hx188_0⟩ := Kd.at_int (Kd.R_reads' HO_18.out).2.2 x19_6 p188 q188
                             cases e188
                             replace p188 := eq_true p188
                             replace q188 := eq_true q188
                             have p189 : 0 ≤ (x19_6 : Int) := of_decide_eq_true (by first | (with_reducible assumption) | assumption)
                             have q189 : x19_6 < (t177.length : Int) := of_decide_eq_true (by first | (with_reducible assumption) | assumption)
                             obtain ⟨ad189, e189, hx189_0⟩ := Kd.at_int (Kd.R_reads' HO_18.out).2.2 x19_6 p189 q189
                             obtain rfl : ad188 = ad189 := (by injection e189)
                             replace p189 := eq_true p189
                             replace q189 := eq_true q189
                             have p190 : 0 ≤ (x19_6 : Int) := of_decide_eq_true (by first | (with_reducible assumption) | assumption)
                             have q190 : x19_6 < (t177.length : Int) := of_decide_eq_true (by first | (with_reducible assumption) | assumption)
                             obtain ⟨ad190, e190, hx190_0⟩ := Kd.at_int (Kd.R_reads' HO_18.out).2.2 x19_6 p190 q190
                             obtain rfl : ad188 = ad190 := (by injection e190)
                             replace p190 := eq_true p190
                             replace q190 := eq_true q190
                             obtain ⟨Ao82, co82, eo82⟩ := Kd.R_slice HO_11.out
                             subst eo82
                             have p191 : 0 ≤ ((rd t177 x19_6) : Int) := of_decide_eq_true (by first | (with_reducible assumption) | assumption)
                             have q191 : (rd t177 x19_6) < (x11_3.length : Int) := of_decide_eq_true (by first | (with_reducible assumption) | assumption)
                             obtain ⟨ad191, e191, hx191_0⟩ := Kd.at_bool (Kd.R_reads' HO_11.out).2.2 (rd t177 x19_6) p191 q191
                             (try rw [← Nbq70.out] at hx191_0)
                             cases e191
                             replace p191 := eq_true p191
                             replace q191 := eq_true q191
                             go_wp2
                             repeat (go_quiet (fail); try go_wp2)
                             go_roundg k6
                             case measure => have := HJ7.out; have := HJ15.out; have := HK3.out; have := HK4.out; have := HJ48.out; have := HK6.out; omega
                             case rel => exact ⟨(wrap64 (x19_6 + 1)), (by first | rfl | (simp; done) | (simp [*]; done)), H', ⟨by have := HJ7.out; have := HJ15.out; have := HK3.out; have := HK4.out; have := HJ48.out; have := HK6.out; omega⟩, ⟨by (with_reducible repeat (first | apply Kd.R_alloc | apply Kd.R_drewN | apply Kd.R_drew)); exact HO_11.out⟩, ⟨by (with_reducible repeat (first | apply Kd.R_alloc | apply Kd.R_drewN | apply Kd.R_drew)); exact HO_18.out⟩, ⟨by repeat (first | (with_reducible first | exact HB.out | apply below_alloc | apply pw_below_drewN | apply below_drew1) | exact HB.out)⟩⟩
                           ·replace c71 := Bool.eq_false_iff.mpr c71
                            subst c71
                            have H1 : (some false) = some r := by rw [if_neg (show ¬ (false = true) by decide)] at H; exact H
                            clear H
                            have H := H1
                            clear H1
                            obtain rfl := Option.some.inj H
                            obtain ⟨Ao83, co83, eo83⟩ := Kd.R_slice HO_18.out
                            subst eo83
                            have p188 : 0 ≤ (x19_6 : Int) := of_decide_eq_true (by first | (with_reducible assumption) | assumption)
                            have q188 : x19_6 < (t177.length : Int) := of_decide_eq_true (by first | (with_reducible assumption) | assumption)
                            obtain ⟨ad188, e188, hx188_0⟩ := Kd.at_int (Kd.R_reads' HO_18.out).2.2 x19_6 p188 q188
                            cases e188
                            replace p188 := eq_true p188
                            replace q188 := eq_true q188
                            have p189 : 0 ≤ (x19_6 : Int) := of_decide_eq_true (by first | (with_reducible assumption) | assumption)
                            have q189 : x19_6 < (t177.length : Int) := of_decide_eq_true (by first | (with_reducible assumption) | assumption)
                            obtain ⟨ad189, e189, hx189_0⟩ := Kd.at_int (Kd.R_reads' HO_18.out).2.2 x19_6 p189 q189
                            obtain rfl : ad188 = ad189 := (by injection e189)
                            replace p189 := eq_true p189
                            replace q189 := eq_true q189
                            have p190 : 0 ≤ (x19_6 : Int) := of_decide_eq_true (by first | (with_reducible assumption) | assumption)
                            have q190 : x19_6 < (t177.length : Int) := of_decide_eq_true (by first | (with_reducible assumption) | assumption)
                            obtain ⟨ad190, e190, hx190_0⟩ := Kd.at_int (Kd.R_reads' HO_18.out).2.2 x19_6 p190 q190
                            obtain rfl : ad188 = ad190 := (by injection e190)
                            replace p190 := eq_true p190
                            replace q190 := eq_true q190
                            obtain ⟨Ao84, co84, eo84⟩ := Kd.R_slice HO_11.out
                            subst eo84
                            have p191 : 0 ≤ ((rd t177 x19_6) : Int) := of_decide_eq_true (by first | (with_reducible assumption) | assumption)
                            have q191 : (rd t177 x19_6) < (x11_3.length : Int) := of_decide_eq_true (by first | (with_reducible assumption) | assumption)
                            obtain ⟨ad191, e191, hx191_0⟩ := Kd.at_bool (Kd.R_reads' HO_11.out).2.2 (rd t177 x19_6) p191 q191
                            (try rw [← Nbq70.out] at hx191_0)
                            cases e191
                            replace p191 := eq_true p191
                            replace q191 := eq_true q191
                            go_wp2
                            repeat (go_quiet (fail); try go_wp2)
                            go_ret
                            exact ⟨by first | rfl | (simp [errW_none, errW_some] <;> rfl) | (simp [*, errW_none, errW_some] <;> rfl), by repeat (first | (with_reducible first | exact HB.out | apply below_alloc | apply pw_below_drewN | apply below_drew1) | exact HB.out)⟩
                          ·rw [if_neg c69] at H
                           exact absurd H (by simp)
                         ·rw [if_neg c68] at H
                          exact absurd H (by simp)
                      ·rw [if_neg c63] at H
                       exact absurd H (by simp)
                     ·rw [if_neg c62] at H
                      have c62b0 : decide (x19_6 < (t177.length : Int)) = false := decide_eq_false c62
                      clear c62
                      obtain rfl := Option.some.inj H
                      obtain ⟨Ao85, co85, eo85⟩ := Kd.R_slice HO_18.out
                      subst eo85
                      go_wp2
                      repeat (go_quiet (fail); try go_wp2)
                      go_ret
                      exact ⟨by first | rfl | (simp [errW_none, errW_some] <;> rfl) | (simp [*, errW_none, errW_some] <;> rfl), by repeat (first | (with_reducible first | exact HB.out | apply below_alloc | apply pw_below_drewN | apply below_drew1) | exact HB.out)⟩
         ·rw [if_neg c22] at H
          exact absurd H (by simp)
        ·rw [if_neg c21] at H
         exact absurd H (by simp)
 ·replace c6 := Bool.eq_false_iff.mpr c6
  subst c6
  have H1 : (some false) = some r := by rw [if_neg (show ¬ (false = true) by decide)] at H; exact H
  clear H
  have H := H1
  clear H1
  obtain rfl := Option.some.inj H
  go_enter Try.func11, Try.ntmps11
  go_wp2_with (first | (go_at_call 30; (with_reducible refine (cellaretlaw7_awake.calls k  false _ A5.out).mono ?_); rintro e w86 ⟨rfl, hb⟩; have n0_ := Aside0.mk (below_step (by repeat (first | (with_reducible first | exact HB.out | apply below_alloc | apply pw_below_drewN | apply below_drew1) | exact HB.out)) hb); clear HB; have HB := n0_; clear n0_; (try clear hb); (try clear hb2); (try clear hk); (try clear hi)))
  repeat (go_quiet (first | (go_at_call 30; (with_reducible refine (cellaretlaw7_awake.calls k  false _ A5.out).mono ?_); rintro e w86 ⟨rfl, hb⟩; have n0_ := Aside0.mk (below_step (by repeat (first | (with_reducible first | exact HB.out | apply below_alloc | apply pw_below_drewN | apply below_drew1) | exact HB.out)) hb); clear HB; have HB := n0_; clear n0_; (try clear hb); (try clear hb2); (try clear hk); (try clear hi))); try go_wp2_with (first | (go_at_call 30; (with_reducible refine (cellaretlaw7_awake.calls k  false _ A5.out).mono ?_); rintro e w86 ⟨rfl, hb⟩; have n0_ := Aside0.mk (below_step (by repeat (first | (with_reducible first | exact HB.out | apply below_alloc | apply pw_below_drewN | apply below_drew1) | exact HB.out)) hb); clear HB; have HB := n0_; clear n0_; (try clear hb); (try clear hb2); (try clear hk); (try clear hi))))
  go_ret
  exact ⟨by first | rfl | (simp [errW_none, errW_some] <;> rfl) | (simp [*, errW_none, errW_some] <;> rfl), by repeat (first | (with_reducible first | exact HB.out | apply below_alloc | apply pw_below_drewN | apply below_drew1) | exact HB.out)⟩


end Go.Proofs.Ytefalfheeofhhaa.QW
