/- Laid by a program of this session: what the Go functions answer, as Lean functions, and the walks that prove it; no condition beyond what each statement names. -/
import Derived.Test.YtefalfheeofhhaaQWP
namespace Go.Proofs.Ytefalfheeofhhaa.QW
open Go.RowKit Go.Proofs.YtefalfheeofhhaaW.PrintWords Go.Proofs.YtefalfheeofhhaaW.PrintLast Go.Proofs.YtefalfheeofhhaaW.PrintMore
open Go.Proofs.Ytefalfheeofhhaa.QV (errW errW_none errW_some info3)
attribute [local go_sem] max2_int min2_int max_two min_two max_three min_three max_four min_four
set_option linter.unusedVariables false
set_option linter.unusedSimpArgs false

/-! ### Two filters at once -/
def IsT (w0 W : World) (g h : Nat) (p : List Bool × List Bool) (T : Int) : Prop := IsS76 w0 W g p.1 T ∧ IsS76 w0 W h p.2 T ∧ g + 1 < h
section
variable {w0 W W1 : World} {g h : Nat} {p : List Bool × List Bool} {T : Int}
theorem IsT.below (hi : IsT w0 W g h p T) (hw : Below W.heap.size W W1) : IsT w0 W1 g h p T := ⟨hi.1.below hw, hi.2.1.below hw, hi.2.2⟩
theorem IsT.alloc (hi : IsT w0 W g h p T) (o : Obj) : IsT w0 (W.alloc o) g h p T := hi.below (below_alloc (Below.refl _ _) o)
theorem IsT.drewN (hi : IsT w0 W g h p T) (m : Nat) : IsT w0 (W.drewN m) g h p T := hi
theorem IsT.drew (hi : IsT w0 W g h p T) : IsT w0 W.drew g h p T := hi
theorem IsT.ge (hi : IsT w0 W g h p T) : w0.heap.size ≤ g := hi.1.ge
theorem IsT.apartH {α : Type} {d : Kd α} {e : Nat} {base : Nat} {ok : Nat → Prop} {v : Value} {xs : List α} (hi : IsT w0 W g h p T) (ho : d.R e W base ok v xs) (ht : ∀ q, q ∈ e :: d.E → q ≠ 76 ∧ q ≠ 4) : d.R e W base (fun k => ok k ∧ k ≠ h) v xs :=
 Kd.R_mono (hi.2.1.apart ho ht) (fun k hk => ⟨hk.1, hk.2.1⟩)
end
theorem IsS76.other {w0 W W1 : World} {g h : Nat} {f0 : List Bool} {f1 : Int} {row : Option Nat} (hi : IsS76 w0 W h f0 f1) (hk : KeepBut W W1 g row) (hr : row = none ∨ row = some (g - 1)) (hne : g + 1 < h ∨ h + 1 < g) : IsS76 w0 W1 h f0 f1 :=
 hi.move (fun k hlt hkh => hk.2 k hlt (by omega) (by
  rcases hr with rfl | rfl
  · simp
  · simp only [ne_eq, Option.some.injEq]
    omega))
theorem IsS76.weaken {w0 w1 W : World} {g : Nat} {f0 : List Bool} {f1 : Int} (hi : IsS76 w1 W g f0 f1) (hle : w0.heap.size ≤ w1.heap.size) : IsS76 w0 W g f0 f1 := by
 obtain ⟨b, c0, hb, hr, hg, he, ho⟩ := hi
 exact ⟨b, c0, hb, hr, Nat.le_trans hle hg, he, ho⟩
theorem IsS76.far_ {w1 W : World} {g : Nat} {f0 : List Bool} {f1 : Int} (hi : IsS76 w1 W g f0 f1) : w1.heap.size + 1 ≤ g := by
 obtain ⟨b, c0, hb, hr, hg, he, ho⟩ := hi
 omega
theorem IsS76.ltS {w1 W : World} {g : Nat} {f0 : List Bool} {f1 : Int} (hi : IsS76 w1 W g f0 f1) : g < W.heap.size := by
 obtain ⟨b, c0, hb, hr, hg, he, ho⟩ := hi
 exact blk_lt hb
def two_New.f (a0 : Int) (a1 : Int) : Option ((List Bool × List Bool) × Int) := (bloom_New.f a0 a1).bind fun b => some ((b.1, b.1), b.2)
theorem two_New.one {a0 a1 : Int} {r1 : List Bool × List Bool} {r2 : Int} (h : two_New.f a0 a1 = some (r1, r2)) : bloom_New.f a0 a1 = some (r1.1, r2) ∧ r1.2 = r1.1 := by
 unfold two_New.f at h
 obtain ⟨⟨b1, b2⟩, hb, h⟩ := Option.bind_eq_some_iff.mp h
 simp only [Option.some.injEq, Prod.mk.injEq] at h
 obtain ⟨rfl, rfl⟩ := h
 exact ⟨hb, rfl⟩
theorem two_New.first (a0 : Int) (a1 : Int) (r1 : List Bool × List Bool) (r2 : Int) (w0 w : World) (hB : Below w0.heap.size w0 w) (h : two_New.f a0 a1 = some (r1, r2)) :
  Calls Try.prog 31 #[.int .i64 a0, .int .i64 a1] w fun e w' => ∃ g_ : Nat, e = .returned (.tuple #[.pointer (some ⟨g_, 0, none⟩), .int .i64 0]) ∧ IsS76 w0 w' g_ r1.1 r2 ∧ Below w0.heap.size w0 w' ∧ Below w.heap.size w w' :=
 bloom_New.calls a0 a1 r1.1 r2 w0 w hB (two_New.one h).1
theorem two_New.second (a0 : Int) (a1 : Int) (r1 : List Bool × List Bool) (r2 : Int) (g : Nat) (w0 w : World) (hI : IsS76 w0 w g r1.1 r2) (hB : Below w0.heap.size w0 w) (h : two_New.f a0 a1 = some (r1, r2)) :
  Calls Try.prog 31 #[.int .i64 a0, .int .i64 a1] w fun e w' => ∃ h_ : Nat, e = .returned (.tuple #[.pointer (some ⟨h_, 0, none⟩), .int .i64 0]) ∧ IsT w0 w' g h_ r1 r2 ∧ Below w0.heap.size w0 w' ∧ Below w.heap.size w w' := by
 obtain ⟨h1, h2⟩ := two_New.one h
 refine (bloom_New.calls a0 a1 r1.1 r2 w w (Below.refl _ _) h1).mono ?_
 rintro e w' ⟨h_, rfl, hi, hb, hb2⟩
 refine ⟨h_, rfl, ⟨hI.below hb, ?_, ?_⟩, below_then hB hB.size hb, hb⟩
 · rw [h2]
   exact hi.weaken hB.size
 · have := hI.ltS
   have := hi.far_
   omega
def two_AddF.f (p : List Bool × List Bool) (T : Int) (a1 : ByteArray) : Option ((List Bool × List Bool) × Int) := if a1.size < top then some ((addS p.1 (pls a1 p.1 T), p.2), T) else none
def two_AddG.f (p : List Bool × List Bool) (T : Int) (a1 : ByteArray) : Option ((List Bool × List Bool) × Int) := if a1.size < top then some ((p.1, addS p.2 (pls a1 p.2 T)), T) else none
theorem two_AddF.calls (g h : Nat) (p : List Bool × List Bool) (T : Int) (a1 : ByteArray) (r1 : List Bool × List Bool) (r2 : Int) (w0 w : World) (hI : IsT w0 w g h p T) (hB : Below w0.heap.size w0 w) (hf : two_AddF.f p T a1 = some (r1, r2)) :
  Calls Try.prog 32 #[.pointer (some ⟨g, 0, none⟩), .string a1] w fun e w' => e = .returned (.tuple #[]) ∧ IsT w0 w' g h r1 r2 ∧ Below w0.heap.size w0 w' ∧ KeepBut w w' g (some (g - 1)) := by
 unfold two_AddF.f at hf
 split at hf
 · rename_i hs
   simp only [Option.some.injEq, Prod.mk.injEq] at hf
   obtain ⟨rfl, rfl⟩ := hf
   refine (bloom_Filter_Add.calls g p.1 T a1 _ _ w0 w hI.1 hB (by unfold bloom_Filter_Add.f; rw [if_pos hs])).mono ?_
   rintro e w' ⟨rfl, hi, hb, hk⟩
   exact ⟨rfl, ⟨hi, hI.2.1.other hk (.inr rfl) (.inl hI.2.2), hI.2.2⟩, hb, hk⟩
 · exact absurd hf (by simp)
theorem two_AddG.calls (g h : Nat) (p : List Bool × List Bool) (T : Int) (a1 : ByteArray) (r1 : List Bool × List Bool) (r2 : Int) (w0 w : World) (hI : IsT w0 w g h p T) (hB : Below w0.heap.size w0 w) (hf : two_AddG.f p T a1 = some (r1, r2)) :
  Calls Try.prog 32 #[.pointer (some ⟨h, 0, none⟩), .string a1] w fun e w' => e = .returned (.tuple #[]) ∧ IsT w0 w' g h r1 r2 ∧ Below w0.heap.size w0 w' ∧ KeepBut w w' h (some (h - 1)) := by
 unfold two_AddG.f at hf
 split at hf
 · rename_i hs
   simp only [Option.some.injEq, Prod.mk.injEq] at hf
   obtain ⟨rfl, rfl⟩ := hf
   refine (bloom_Filter_Add.calls h p.2 T a1 _ _ w0 w hI.2.1 hB (by unfold bloom_Filter_Add.f; rw [if_pos hs])).mono ?_
   rintro e w' ⟨rfl, hi, hb, hk⟩
   exact ⟨rfl, ⟨hI.1.other hk (.inr rfl) (.inr hI.2.2), hi, hI.2.2⟩, hb, hk⟩
 · exact absurd hf (by simp)
def two_BitsF.f (p : List Bool × List Bool) (T : Int) : Option (List Int × (List Bool × List Bool) × Int) := some ((bits p.1).map Int.ofNat, p, T)
def two_BitsG.f (p : List Bool × List Bool) (T : Int) : Option (List Int × (List Bool × List Bool) × Int) := some ((bits p.2).map Int.ofNat, p, T)
theorem two_BitsF.calls (g h : Nat) (p : List Bool × List Bool) (T : Int) (r1 : List Int) (r2 : List Bool × List Bool) (r3 : Int) (w0 w : World) (hI : IsT w0 w g h p T) (hB : Below w0.heap.size w0 w) (hf : two_BitsF.f p T = some (r1, r2, r3)) :
  Calls Try.prog 34 #[.pointer (some ⟨g, 0, none⟩)] w fun e w' => ∃ v0_ : Value, e = .returned (v0_) ∧ Kd.R (Kd.int .i64) 3 w' w.heap.size (fun _ => True) v0_ r1 ∧ IsT w0 w' g h r2 r3 ∧ Below w0.heap.size w0 w' ∧ KeepBut w w' g none := by
 unfold two_BitsF.f at hf
 simp only [Option.some.injEq, Prod.mk.injEq] at hf
 obtain ⟨rfl, rfl, rfl⟩ := hf
 refine (bloom_Filter_Bits.calls g p.1 T _ _ _ w0 w hI.1 hB rfl).mono ?_
 rintro e w' ⟨v0, rfl, hr, hi, hb, hk⟩
 exact ⟨v0, rfl, hr, ⟨hi, hI.2.1.other hk (.inl rfl) (.inl hI.2.2), hI.2.2⟩, hb, hk⟩
theorem two_BitsG.calls (g h : Nat) (p : List Bool × List Bool) (T : Int) (r1 : List Int) (r2 : List Bool × List Bool) (r3 : Int) (w0 w : World) (hI : IsT w0 w g h p T) (hB : Below w0.heap.size w0 w) (hf : two_BitsG.f p T = some (r1, r2, r3)) :
  Calls Try.prog 34 #[.pointer (some ⟨h, 0, none⟩)] w fun e w' => ∃ v0_ : Value, e = .returned (v0_) ∧ Kd.R (Kd.int .i64) 3 w' w.heap.size (fun _ => True) v0_ r1 ∧ IsT w0 w' g h r2 r3 ∧ Below w0.heap.size w0 w' ∧ KeepBut w w' h none := by
 unfold two_BitsG.f at hf
 simp only [Option.some.injEq, Prod.mk.injEq] at hf
 obtain ⟨rfl, rfl, rfl⟩ := hf
 refine (bloom_Filter_Bits.calls h p.2 T _ _ _ w0 w hI.2.1 hB rfl).mono ?_
 rintro e w' ⟨v0, rfl, hr, hi, hb, hk⟩
 exact ⟨v0, rfl, hr, ⟨hI.1.other hk (.inl rfl) (.inr hI.2.2), hi, hI.2.2⟩, hb, hk⟩

/-! ### cellaretlaw7_BloomOrder: function 13 -/
mutual
def cellaretlaw7_BloomOrder.j0 : Nat → List ByteArray → Int → Int → Bool → (List Bool × List Bool) → Int → Option (Bool)
 | 0, _, _, _, _, _, _ => none
 | k + 1, x2, x8, x10, x39, x148000, x148001 => if x39 = true then (some (x8 == x10)) else (cellaretlaw7_BloomOrder.l0 k x2 0 x148000 x148001)
def cellaretlaw7_BloomOrder.l0 : Nat → List ByteArray → Int → (List Bool × List Bool) → Int → Option (Bool)
 | 0, _, _, _, _ => none
 | k + 1, x2, x11, x148000, x148001 => if x11 < (x2.length : Int) then (if 0 ≤ x11 then ((two_AddF.f x148000 x148001 (rdOf ByteArray.empty x2 x11)).bind fun bt149 => (if 0 ≤ (wrap64 ((wrap64 ((x2.length : Int) - 1)) - x11)) then (if (wrap64 ((wrap64 ((x2.length : Int) - 1)) - x11)) < (x2.length : Int) then ((two_AddG.f bt149.1 bt149.2 (rdOf ByteArray.empty x2 (wrap64 ((wrap64 ((x2.length : Int) - 1)) - x11)))).bind fun bt152 => (if 0 < (x2.length : Int) then ((two_AddG.f bt152.1 bt152.2 (rdOf ByteArray.empty x2 0)).bind fun bt155 => (cellaretlaw7_BloomOrder.l0 k x2 (wrap64 (x11 + 1)) bt155.1 bt155.2)) else (none))) else (none)) else (none))) else (none)) else ((two_BitsF.f x148000 x148001).bind fun bt157 => ((two_BitsG.f bt157.2.1 bt157.2.2).bind fun bt162 => (if (bt157.1.length : Int) = (bt162.1.length : Int) then (cellaretlaw7_BloomOrder.l1 k bt157.1 bt162.1 0) else (some false))))
def cellaretlaw7_BloomOrder.l1 : Nat → List Int → List Int → Int → Option (Bool)
 | 0, _, _, _ => none
 | k + 1, x12, x13, x14 => if x14 < (x12.length : Int) then (if 0 ≤ x14 then (if x14 < (x13.length : Int) then (if (rd x12 x14) = (rd x13 x14) then (cellaretlaw7_BloomOrder.l1 k x12 x13 (wrap64 (x14 + 1))) else (some false)) else (none)) else (none)) else (some true)
end
def cellaretlaw7_BloomOrder.f (k : Nat) (a0 : Int) (a1 : Int) (l2 : List ByteArray) : Option (Bool) := (cellaretlaw7_awake.f k).bind fun t144 => (if t144 = true then ((two_New.f a0 a1).bind fun bt145 => (if 0 = 0 then (cellaretlaw7_BloomOrder.j0 k l2 0 0 (decide ((l2.length : Int) > 60)) bt145.1 bt145.2) else (cellaretlaw7_BloomOrder.j0 k l2 0 0 true bt145.1 bt145.2))) else (some false))
theorem cellaretlaw7_BloomOrder.mono_l : ∀ k, (∀ y0 y1 y2 y3 y4 y5, LeO (cellaretlaw7_BloomOrder.j0 k y0 y1 y2 y3 y4 y5) (cellaretlaw7_BloomOrder.j0 (k + 1) y0 y1 y2 y3 y4 y5)) ∧ (∀ y0 y1 y2 y3, LeO (cellaretlaw7_BloomOrder.l0 k y0 y1 y2 y3) (cellaretlaw7_BloomOrder.l0 (k + 1) y0 y1 y2 y3)) ∧ (∀ y0 y1 y2, LeO (cellaretlaw7_BloomOrder.l1 k y0 y1 y2) (cellaretlaw7_BloomOrder.l1 (k + 1) y0 y1 y2))
 | 0 => ⟨fun _ _ _ _ _ _ r h => by simp [cellaretlaw7_BloomOrder.j0] at h, fun _ _ _ _ r h => by simp [cellaretlaw7_BloomOrder.l0] at h, fun _ _ _ r h => by simp [cellaretlaw7_BloomOrder.l1] at h⟩
 | k + 1 => by
  obtain ⟨ih0, ih1, ih2⟩ := cellaretlaw7_BloomOrder.mono_l k
  refine ⟨?_, ?_, ?_⟩
  ·intro y0 y1 y2 y3 y4 y5
   unfold cellaretlaw7_BloomOrder.j0
   repeat' first
   | (with_reducible exact ih0 _ _ _ _ _ _)
   | (with_reducible exact ih1 _ _ _ _)
   | (with_reducible exact ih2 _ _ _)
   | (with_reducible exact cellaretlaw7_awake.mono _)
   | (with_reducible exact LeO.refl _)
   | (with_reducible exact LeO.none _)
   | (with_reducible refine LeO.ite ?_ ?_)
   | (with_reducible refine LeO.bind ?_ (fun _ => ?_))
   | exact ih0 _ _ _ _ _ _
   | exact ih1 _ _ _ _
   | exact ih2 _ _ _
   | exact cellaretlaw7_awake.mono _
   | exact LeO.none _
   | refine LeO.ite ?_ ?_
   | refine LeO.bind ?_ (fun _ => ?_)
  ·intro y0 y1 y2 y3
   unfold cellaretlaw7_BloomOrder.l0
   repeat' first
   | (with_reducible exact ih0 _ _ _ _ _ _)
   | (with_reducible exact ih1 _ _ _ _)
   | (with_reducible exact ih2 _ _ _)
   | (with_reducible exact cellaretlaw7_awake.mono _)
   | (with_reducible exact LeO.refl _)
   | (with_reducible exact LeO.none _)
   | (with_reducible refine LeO.ite ?_ ?_)
   | (with_reducible refine LeO.bind ?_ (fun _ => ?_))
   | exact ih0 _ _ _ _ _ _
   | exact ih1 _ _ _ _
   | exact ih2 _ _ _
   | exact cellaretlaw7_awake.mono _
   | exact LeO.none _
   | refine LeO.ite ?_ ?_
   | refine LeO.bind ?_ (fun _ => ?_)
  ·intro y0 y1 y2
   unfold cellaretlaw7_BloomOrder.l1
   repeat' first
   | (with_reducible exact ih0 _ _ _ _ _ _)
   | (with_reducible exact ih1 _ _ _ _)
   | (with_reducible exact ih2 _ _ _)
   | (with_reducible exact cellaretlaw7_awake.mono _)
   | (with_reducible exact LeO.refl _)
   | (with_reducible exact LeO.none _)
   | (with_reducible refine LeO.ite ?_ ?_)
   | (with_reducible refine LeO.bind ?_ (fun _ => ?_))
   | exact ih0 _ _ _ _ _ _
   | exact ih1 _ _ _ _
   | exact ih2 _ _ _
   | exact cellaretlaw7_awake.mono _
   | exact LeO.none _
   | refine LeO.ite ?_ ?_
   | refine LeO.bind ?_ (fun _ => ?_)
theorem cellaretlaw7_BloomOrder.mono : ∀ a0 a1 a2 k, LeO (cellaretlaw7_BloomOrder.f k a0 a1 a2) (cellaretlaw7_BloomOrder.f (k + 1) a0 a1 a2) := by
 intro a0 a1 a2 k
 obtain ⟨ih0, ih1, ih2⟩ := cellaretlaw7_BloomOrder.mono_l k
 unfold cellaretlaw7_BloomOrder.f
 repeat' first
   | (with_reducible exact ih0 _ _ _ _ _ _)
   | (with_reducible exact ih1 _ _ _ _)
   | (with_reducible exact ih2 _ _ _)
   | (with_reducible exact cellaretlaw7_awake.mono _)
   | (with_reducible exact LeO.refl _)
   | (with_reducible exact LeO.none _)
   | (with_reducible refine LeO.ite ?_ ?_)
   | (with_reducible refine LeO.bind ?_ (fun _ => ?_))
   | exact ih0 _ _ _ _ _ _
   | exact ih1 _ _ _ _
   | exact ih2 _ _ _
   | exact cellaretlaw7_awake.mono _
   | exact LeO.none _
   | refine LeO.ite ?_ ?_
   | refine LeO.bind ?_ (fun _ => ?_)
set_option maxHeartbeats 8000000 in
set_option maxRecDepth 100000 in
theorem cellaretlaw7_BloomOrder.calls (k : Nat) (a0 : Int) (a1 : Int) (A2 : Option Addr) (c2 : Nat) (l2 : List ByteArray) (r : Bool) (w : World) (hr2 : Kd.C Kd.string w A2 l2.length l2) (hc2 : l2.length ≤ c2) (h : cellaretlaw7_BloomOrder.f k a0 a1 l2 = some r) :
  Calls Try.prog 13 #[.int .i64 a0, .int .i64 a1, .slice A2 l2.length c2] w fun e w' => e = .returned (.bool r) ∧ Below w.heap.size w w' := by
 have HR2 := Aside0.mk hr2
 have HC2 := Aside0.mk hc2
 clear hr2 hc2
 have HB := Aside0.mk (Below.refl w.heap.size w)
 have H : ((cellaretlaw7_awake.f k).bind fun t144 => (if t144 = true then ((two_New.f a0 a1).bind fun bt145 => (if 0 = 0 then (cellaretlaw7_BloomOrder.j0 k l2 0 0 (decide ((l2.length : Int) > 60)) bt145.1 bt145.2) else (cellaretlaw7_BloomOrder.j0 k l2 0 0 true bt145.1 bt145.2))) else (some false))) = some r := h
 clear h
 replace H := Option.bind_eq_some_iff.mp H
 obtain ⟨t144, A40, H⟩ := H
 replace H : (if t144 = true then ((two_New.f a0 a1).bind fun bt145 => (if 0 = 0 then (cellaretlaw7_BloomOrder.j0 k l2 0 0 (decide ((l2.length : Int) > 60)) bt145.1 bt145.2) else (cellaretlaw7_BloomOrder.j0 k l2 0 0 true bt145.1 bt145.2))) else (some false)) = some r := H
 have A4 := Aside0.mk A40
 clear A40
 by_cases c5 : t144 = true
 ·subst c5
  have H1 : ((two_New.f a0 a1).bind fun bt145 => (if 0 = 0 then (cellaretlaw7_BloomOrder.j0 k l2 0 0 (decide ((l2.length : Int) > 60)) bt145.1 bt145.2) else (cellaretlaw7_BloomOrder.j0 k l2 0 0 true bt145.1 bt145.2))) = some r := by rw [if_pos rfl] at H; exact H
  clear H
  have H := H1
  clear H1
  replace H := Option.bind_eq_some_iff.mp H
  obtain ⟨⟨t145, t146⟩, A60, H⟩ := H
  replace H : (if 0 = 0 then (cellaretlaw7_BloomOrder.j0 k l2 0 0 (decide ((l2.length : Int) > 60)) t145 t146) else (cellaretlaw7_BloomOrder.j0 k l2 0 0 true t145 t146)) = some r := H
  have A6 := Aside0.mk A60
  clear A60
  have HC7 := Aside0.mk H
  clear H
  go_enter Try.func13, Try.ntmps13
  go_upto_region 5 with (first | (go_at_call 30; (with_reducible refine (cellaretlaw7_awake.calls k  true _ A4.out).mono ?_); rintro e w8 ⟨rfl, hb⟩; have n0_ := Aside0.mk (below_step (by repeat (first | (with_reducible first | exact HB.out | apply below_alloc | apply pw_below_drewN | apply below_drew1) | exact HB.out)) hb); clear HB; have HB := n0_; clear n0_; (try clear hb); (try clear hb2); (try clear hk); (try clear hi)) | (go_at_call 31; (with_reducible refine (two_New.second a0 a1 t145 t146 g147 w _ ?side0 ?side1 A6.out).mono ?_); (case side0 => repeat (first | (with_reducible first | exact HI147S.out | apply IsS76.alloc | apply IsS76.drewN | apply IsS76.drew) | exact HI147S.out)); (case side1 => repeat (first | (with_reducible first | exact HB.out | apply below_alloc | apply pw_below_drewN | apply below_drew1) | exact HB.out)); rintro e w9b ⟨h147, rfl, hi, hb, hb2⟩; have n0_ := Aside0.mk (hb); have n1_ := Aside0.mk (hi); clear HB; clear HI147S; have HB := n0_; have HI147 := n1_; clear n0_ n1_; (try clear hb); (try clear hb2); (try clear hk); (try clear hi)) | (go_at_call 31; (with_reducible refine (two_New.first a0 a1 t145 t146 w _ ?side1 A6.out).mono ?_); (case side1 => repeat (first | (with_reducible first | exact HB.out | apply below_alloc | apply pw_below_drewN | apply below_drew1) | exact HB.out)); rintro e w9 ⟨g147, rfl, hi, hb, hb2⟩; have n0_ := Aside0.mk (hb); have n1_ := Aside0.mk (hi); clear HB; have HB := n0_; have HI147S := n1_; clear n0_ n1_; (try clear hb); (try clear hb2); (try clear hk); (try clear hi)))
  repeat (go_quiet (first | (go_at_call 30; (with_reducible refine (cellaretlaw7_awake.calls k  true _ A4.out).mono ?_); rintro e w8 ⟨rfl, hb⟩; have n0_ := Aside0.mk (below_step (by repeat (first | (with_reducible first | exact HB.out | apply below_alloc | apply pw_below_drewN | apply below_drew1) | exact HB.out)) hb); clear HB; have HB := n0_; clear n0_; (try clear hb); (try clear hb2); (try clear hk); (try clear hi)) | (go_at_call 31; (with_reducible refine (two_New.second a0 a1 t145 t146 g147 w _ ?side0 ?side1 A6.out).mono ?_); (case side0 => repeat (first | (with_reducible first | exact HI147S.out | apply IsS76.alloc | apply IsS76.drewN | apply IsS76.drew) | exact HI147S.out)); (case side1 => repeat (first | (with_reducible first | exact HB.out | apply below_alloc | apply pw_below_drewN | apply below_drew1) | exact HB.out)); rintro e w9b ⟨h147, rfl, hi, hb, hb2⟩; have n0_ := Aside0.mk (hb); have n1_ := Aside0.mk (hi); clear HB; clear HI147S; have HB := n0_; have HI147 := n1_; clear n0_ n1_; (try clear hb); (try clear hb2); (try clear hk); (try clear hi)) | (go_at_call 31; (with_reducible refine (two_New.first a0 a1 t145 t146 w _ ?side1 A6.out).mono ?_); (case side1 => repeat (first | (with_reducible first | exact HB.out | apply below_alloc | apply pw_below_drewN | apply below_drew1) | exact HB.out)); rintro e w9 ⟨g147, rfl, hi, hb, hb2⟩; have n0_ := Aside0.mk (hb); have n1_ := Aside0.mk (hi); clear HB; have HB := n0_; have HI147S := n1_; clear n0_ n1_; (try clear hb); (try clear hb2); (try clear hk); (try clear hi))); go_upto_region 5 with (first | (go_at_call 30; (with_reducible refine (cellaretlaw7_awake.calls k  true _ A4.out).mono ?_); rintro e w8 ⟨rfl, hb⟩; have n0_ := Aside0.mk (below_step (by repeat (first | (with_reducible first | exact HB.out | apply below_alloc | apply pw_below_drewN | apply below_drew1) | exact HB.out)) hb); clear HB; have HB := n0_; clear n0_; (try clear hb); (try clear hb2); (try clear hk); (try clear hi)) | (go_at_call 31; (with_reducible refine (two_New.second a0 a1 t145 t146 g147 w _ ?side0 ?side1 A6.out).mono ?_); (case side0 => repeat (first | (with_reducible first | exact HI147S.out | apply IsS76.alloc | apply IsS76.drewN | apply IsS76.drew) | exact HI147S.out)); (case side1 => repeat (first | (with_reducible first | exact HB.out | apply below_alloc | apply pw_below_drewN | apply below_drew1) | exact HB.out)); rintro e w9b ⟨h147, rfl, hi, hb, hb2⟩; have n0_ := Aside0.mk (hb); have n1_ := Aside0.mk (hi); clear HB; clear HI147S; have HB := n0_; have HI147 := n1_; clear n0_ n1_; (try clear hb); (try clear hb2); (try clear hk); (try clear hi)) | (go_at_call 31; (with_reducible refine (two_New.first a0 a1 t145 t146 w _ ?side1 A6.out).mono ?_); (case side1 => repeat (first | (with_reducible first | exact HB.out | apply below_alloc | apply pw_below_drewN | apply below_drew1) | exact HB.out)); rintro e w9 ⟨g147, rfl, hi, hb, hb2⟩; have n0_ := Aside0.mk (hb); have n1_ := Aside0.mk (hi); clear HB; have HB := n0_; have HI147S := n1_; clear n0_ n1_; (try clear hb); (try clear hb2); (try clear hk); (try clear hi))))
  (try simp only [Act.put, List.setIfInBounds_toArray, List.set_cons_zero, List.set_cons_succ])
  go_cut [39] (fun v39 wc => ∃ (kq : Nat) (x39_6 : Bool), v39 = .bool x39_6 ∧ Aside0 (cellaretlaw7_BloomOrder.j0 kq l2 0 0 x39_6 t145 t146 = some r) ∧ Aside0 (kq ≤ k) ∧ Aside0 (IsT w wc g147 h147 t145 t146) ∧ Aside0 (Below w.heap.size w wc))
  case first =>
   have H := HC7.out
   clear HC7
   by_cases c10 : 0 = 0
   ·(first | rw [if_pos c10] at H | rw [if_pos trivial] at H)
    have c10b0 : (0 == 0) = true := beq_iff_eq.mpr c10
    have c10b1 : (0 != 0) = false := bne_eq_false_iff_eq.mpr c10
    clear c10
    (first | rw [c10b0] | (simp only [i64_w, i32_w]; rw [c10b0]) | skip)
    have H' := Aside0.mk H
    clear H
    go_wp2
    repeat (go_quiet (fail); try go_wp2)
    go_meet
    case rel => exact ⟨_, (decide ((l2.length : Int) > 60)), (by first | rfl | (simp; done) | (simp [*]; done)), H', ⟨by first | omega | exact Nat.le_refl _⟩, ⟨by repeat (first | (with_reducible first | exact HI147.out | apply IsT.alloc | apply IsT.drewN | apply IsT.drew) | exact HI147.out)⟩, ⟨by repeat (first | (with_reducible first | exact HB.out | apply below_alloc | apply pw_below_drewN | apply below_drew1 | refine below_set ?_ (IsT.ge HI147.out)) | exact HB.out)⟩⟩
   ·exact absurd rfl c10
  case rest =>
   clear HC7
   try clear c1
   try clear c2
   try clear p2
   try clear c5
   try clear c10
   try clear c10b0
   try clear c10b1
   obtain ⟨kq, x39_6, rfl, HA, HJ6, HI147, HB⟩ := hcut
   cases kq with
   | zero => exact absurd HA.out (by simp [cellaretlaw7_BloomOrder.j0])
   | succ kj6 =>
    have H := HA.out
    clear HA
    simp only [cellaretlaw7_BloomOrder.j0] at H
    by_cases c11 : x39_6 = true
    ·subst c11
     have H1 : (some (0 == 0)) = some r := by rw [if_pos rfl] at H; exact H
     clear H
     have H := H1
     clear H1
     obtain rfl := Option.some.inj H
     go_wp2
     repeat (go_quiet (fail); try go_wp2)
     go_ret
     exact ⟨by first | rfl | (simp [errW_none, errW_some] <;> rfl) | (simp [*, errW_none, errW_some] <;> rfl), by repeat (first | (with_reducible first | exact HB.out | apply below_alloc | apply pw_below_drewN | apply below_drew1 | refine below_set ?_ (IsT.ge HI147.out)) | exact HB.out)⟩
    ·replace c11 := Bool.eq_false_iff.mpr c11
     subst c11
     have H1 : (cellaretlaw7_BloomOrder.l0 kj6 l2 0 t145 t146) = some r := by rw [if_neg (show ¬ (false = true) by decide)] at H; exact H
     clear H
     have H := H1
     clear H1
     have H' := Aside0.mk H
     clear H
     go_wp2
     repeat (go_quiet (fail); try go_wp2)
     go_loopg [11] kj6 (fun kq v11 w' => ∃ (x11_2 : Int) (x148000_2 : List Bool × List Bool) (x148001_2 : Int), v11 = .int .i64 x11_2 ∧ Aside0 (cellaretlaw7_BloomOrder.l0 kq l2 x11_2 x148000_2 x148001_2 = some r) ∧ Aside0 (kq ≤ kj6) ∧ Aside0 (IsT w w' g147 h147 x148000_2 x148001_2) ∧ Aside0 (Below w.heap.size w w'))
     case atStart => exact ⟨(0), (t145), (t146), (by first | rfl | (simp; done) | (simp [*]; done)), H', ⟨Nat.le_refl _⟩, ⟨by repeat (first | (with_reducible first | exact HI147.out | apply IsT.alloc | apply IsT.drewN | apply IsT.drew) | exact HI147.out)⟩, ⟨by repeat (first | (with_reducible first | exact HB.out | apply below_alloc | apply pw_below_drewN | apply below_drew1 | refine below_set ?_ (IsT.ge HI147.out)) | exact HB.out)⟩⟩
     case round =>
      clear H'
      try clear c1
      try clear c2
      try clear p2
      try clear c5
      try clear c10
      try clear c10b0
      try clear c10b1
      try clear c11
      try clear p2
      obtain ⟨x11_2, x148000_2, x148001_2, rfl, HA, HK2, HI147, HB⟩ := hrel
      cases gk with
      | zero => exact absurd HA.out (by simp [cellaretlaw7_BloomOrder.l0])
      | succ k2 =>
       have H := HA.out
       clear HA
       simp only [cellaretlaw7_BloomOrder.l0] at H
       by_cases c12 : x11_2 < (l2.length : Int)
       ·rw [if_pos c12] at H
        have c12b0 : decide (x11_2 < (l2.length : Int)) = true := decide_eq_true c12
        clear c12
        by_cases c13 : 0 ≤ x11_2
        ·rw [if_pos c13] at H
         have c13b0 : decide (0 ≤ x11_2) = true := decide_eq_true c13
         clear c13
         replace H := Option.bind_eq_some_iff.mp H
         obtain ⟨⟨t149, t150⟩, A140, H⟩ := H
         replace H : (if 0 ≤ (wrap64 ((wrap64 ((l2.length : Int) - 1)) - x11_2)) then (if (wrap64 ((wrap64 ((l2.length : Int) - 1)) - x11_2)) < (l2.length : Int) then ((two_AddG.f t149 t150 (rdOf ByteArray.empty l2 (wrap64 ((wrap64 ((l2.length : Int) - 1)) - x11_2)))).bind fun bt152 => (if 0 < (l2.length : Int) then ((two_AddG.f bt152.1 bt152.2 (rdOf ByteArray.empty l2 0)).bind fun bt155 => (cellaretlaw7_BloomOrder.l0 k2 l2 (wrap64 (x11_2 + 1)) bt155.1 bt155.2)) else (none))) else (none)) else (none)) = some r := H
         have A14 := Aside0.mk A140
         clear A140
         obtain ⟨ji15, hji15⟩ : ∃ j_ : Int, (wrap64 ((wrap64 ((l2.length : Int) - 1)) - x11_2)) = j_ := ⟨_, rfl⟩
         replace H : (if 0 ≤ (ji15) then (if (ji15) < (l2.length : Int) then ((two_AddG.f t149 t150 (rdOf ByteArray.empty l2 (ji15))).bind fun bt152 => (if 0 < (l2.length : Int) then ((two_AddG.f bt152.1 bt152.2 (rdOf ByteArray.empty l2 0)).bind fun bt155 => (cellaretlaw7_BloomOrder.l0 k2 l2 (wrap64 (x11_2 + 1)) bt155.1 bt155.2)) else (none))) else (none)) else (none)) = some r := by first | (rw [hji15] at H; exact H) | (simp only [hji15] at H ⊢; exact H)
         (try rw [hji15] at A14)
         have hji15w : (IntKind.i64.wrap ((wrap64 ((l2.length : Int) - 1)) - x11_2)) = ji15 := (i64_w _).trans hji15
         by_cases c16 : 0 ≤ (ji15)
         ·rw [if_pos c16] at H
          have c16b0 : decide (0 ≤ (ji15)) = true := decide_eq_true c16
          clear c16
          by_cases c17 : (ji15) < (l2.length : Int)
          ·rw [if_pos c17] at H
           have c17b0 : decide ((ji15) < (l2.length : Int)) = true := decide_eq_true c17
           clear c17
           replace H := Option.bind_eq_some_iff.mp H
           obtain ⟨⟨t152, t153⟩, A180, H⟩ := H
           replace H : (if 0 < (l2.length : Int) then ((two_AddG.f t152 t153 (rdOf ByteArray.empty l2 0)).bind fun bt155 => (cellaretlaw7_BloomOrder.l0 k2 l2 (wrap64 (x11_2 + 1)) bt155.1 bt155.2)) else (none)) = some r := H
           have A18 := Aside0.mk A180
           clear A180
           by_cases c19 : 0 < (l2.length : Int)
           ·rw [if_pos c19] at H
            have c19b0 : decide (0 < (l2.length : Int)) = true := decide_eq_true c19
            have c19b1 : decide (0 < l2.length) = true := decide_eq_true (by omega)
            clear c19
            replace H := Option.bind_eq_some_iff.mp H
            obtain ⟨⟨t155, t156⟩, A200, H⟩ := H
            replace H : (cellaretlaw7_BloomOrder.l0 k2 l2 (wrap64 (x11_2 + 1)) t155 t156) = some r := H
            have A20 := Aside0.mk A200
            clear A200
            have H' := Aside0.mk H
            clear H
            have p148 : 0 ≤ (x11_2 : Int) := of_decide_eq_true (by first | (with_reducible assumption) | assumption)
            have q148 : x11_2 < (l2.length : Int) := of_decide_eq_true (by first | (with_reducible assumption) | assumption)
            obtain ⟨ad148, e148, hx148_0⟩ := Kd.at_string HR2.out x11_2 p148 q148
            cases e148
            replace hx148_0 := (HB.out.cell (World.block_lt_of_cell? w _ hx148_0)).trans hx148_0
            replace p148 := eq_true p148
            replace q148 := eq_true q148
            go_wp2_with (first | (go_at_call 32; (with_reducible refine (two_AddF.calls g147 h147 x148000_2 x148001_2 (rdOf ByteArray.empty l2 x11_2) t149 t150 w _ ?side1 ?side2 A14.out).mono ?_); (case side1 => repeat (first | (with_reducible first | exact HI147.out | apply IsT.alloc | apply IsT.drewN | apply IsT.drew) | exact HI147.out)); (case side2 => repeat (first | (with_reducible first | exact HB.out | apply below_alloc | apply pw_below_drewN | apply below_drew1 | refine below_set ?_ (IsT.ge HI147.out)) | exact HB.out)); rintro e w21 ⟨rfl, hi, hb, hk⟩; have n0_ := Aside0.mk (hb); have n1_ := Aside0.mk (hi); clear HB; clear HI147; have HB := n0_; have HI147 := n1_; clear n0_ n1_; (try clear hb); (try clear hb2); (try clear hk); (try clear hi); have p151 : 0 ≤ ((ji15) : Int) := of_decide_eq_true (by first | (with_reducible assumption) | assumption); have q151 : (ji15) < (l2.length : Int) := of_decide_eq_true (by first | (with_reducible assumption) | assumption); obtain ⟨ad151, e151, hx151_0⟩ := Kd.at_string HR2.out (ji15) p151 q151; obtain rfl : ad148 = ad151 := (by injection e151); replace hx151_0 := (HB.out.cell (World.block_lt_of_cell? w _ hx151_0)).trans hx151_0; replace p151 := eq_true p151; replace q151 := eq_true q151) | (go_at_call 32; (with_reducible refine (two_AddG.calls g147 h147 t149 t150 (rdOf ByteArray.empty l2 (ji15)) t152 t153 w _ ?side1 ?side2 A18.out).mono ?_); (case side1 => repeat (first | (with_reducible first | exact HI147.out | apply IsT.alloc | apply IsT.drewN | apply IsT.drew) | exact HI147.out)); (case side2 => repeat (first | (with_reducible first | exact HB.out | apply below_alloc | apply pw_below_drewN | apply below_drew1 | refine below_set ?_ (IsT.ge HI147.out)) | exact HB.out)); rintro e w22 ⟨rfl, hi, hb, hk⟩; have n0_ := Aside0.mk (hb); have n1_ := Aside0.mk (hi); clear HB; clear HI147; have HB := n0_; have HI147 := n1_; clear n0_ n1_; (try clear hb); (try clear hb2); (try clear hk); (try clear hi); have p154 : 0 ≤ (0 : Int) := (by omega); have q154 : 0 < (l2.length : Int) := of_decide_eq_true (by first | (with_reducible assumption) | assumption); obtain ⟨ad154, e154, hx154_0⟩ := Kd.at_string HR2.out 0 p154 q154; obtain rfl : ad148 = ad154 := (by injection e154); have qi154 : (0 < l2.length) = True := eq_true (by omega); (try rw [show ((0 : Int)).toNat = 0 from rfl] at hx154_0); (try rw [Addr.add_zero'] at hx154_0); replace hx154_0 := (HB.out.cell (World.block_lt_of_cell? w _ hx154_0)).trans hx154_0; replace p154 := eq_true p154; replace q154 := eq_true q154) | (go_at_call 32; (with_reducible refine (two_AddG.calls g147 h147 t152 t153 (rdOf ByteArray.empty l2 0) t155 t156 w _ ?side1 ?side2 A20.out).mono ?_); (case side1 => repeat (first | (with_reducible first | exact HI147.out | apply IsT.alloc | apply IsT.drewN | apply IsT.drew) | exact HI147.out)); (case side2 => repeat (first | (with_reducible first | exact HB.out | apply below_alloc | apply pw_below_drewN | apply below_drew1 | refine below_set ?_ (IsT.ge HI147.out)) | exact HB.out)); rintro e w23 ⟨rfl, hi, hb, hk⟩; have n0_ := Aside0.mk (hb); have n1_ := Aside0.mk (hi); clear HB; clear HI147; have HB := n0_; have HI147 := n1_; clear n0_ n1_; (try clear hb); (try clear hb2); (try clear hk); (try clear hi)))
            repeat (go_quiet (first | (go_at_call 32; (with_reducible refine (two_AddF.calls g147 h147 x148000_2 x148001_2 (rdOf ByteArray.empty l2 x11_2) t149 t150 w _ ?side1 ?side2 A14.out).mono ?_); (case side1 => repeat (first | (with_reducible first | exact HI147.out | apply IsT.alloc | apply IsT.drewN | apply IsT.drew) | exact HI147.out)); (case side2 => repeat (first | (with_reducible first | exact HB.out | apply below_alloc | apply pw_below_drewN | apply below_drew1 | refine below_set ?_ (IsT.ge HI147.out)) | exact HB.out)); rintro e w21 ⟨rfl, hi, hb, hk⟩; have n0_ := Aside0.mk (hb); have n1_ := Aside0.mk (hi); clear HB; clear HI147; have HB := n0_; have HI147 := n1_; clear n0_ n1_; (try clear hb); (try clear hb2); (try clear hk); (try clear hi); have p151 : 0 ≤ ((ji15) : Int) := of_decide_eq_true (by first | (with_reducible assumption) | assumption); have q151 : (ji15) < (l2.length : Int) := of_decide_eq_true (by first | (with_reducible assumption) | assumption); obtain ⟨ad151, e151, hx151_0⟩ := Kd.at_string HR2.out (ji15) p151 q151; obtain rfl : ad148 = ad151 := (by injection e151); replace hx151_0 := (HB.out.cell (World.block_lt_of_cell? w _ hx151_0)).trans hx151_0; replace p151 := eq_true p151; replace q151 := eq_true q151) | (go_at_call 32; (with_reducible refine (two_AddG.calls g147 h147 t149 t150 (rdOf ByteArray.empty l2 (ji15)) t152 t153 w _ ?side1 ?side2 A18.out).mono ?_); (case side1 => repeat (first | (with_reducible first | exact HI147.out | apply IsT.alloc | apply IsT.drewN | apply IsT.drew) | exact HI147.out)); (case side2 => repeat (first | (with_reducible first | exact HB.out | apply below_alloc | apply pw_below_drewN | apply below_drew1 | refine below_set ?_ (IsT.ge HI147.out)) | exact HB.out)); rintro e w22 ⟨rfl, hi, hb, hk⟩; have n0_ := Aside0.mk (hb); have n1_ := Aside0.mk (hi); clear HB; clear HI147; have HB := n0_; have HI147 := n1_; clear n0_ n1_; (try clear hb); (try clear hb2); (try clear hk); (try clear hi); have p154 : 0 ≤ (0 : Int) := (by omega); have q154 : 0 < (l2.length : Int) := of_decide_eq_true (by first | (with_reducible assumption) | assumption); obtain ⟨ad154, e154, hx154_0⟩ := Kd.at_string HR2.out 0 p154 q154; obtain rfl : ad148 = ad154 := (by injection e154); have qi154 : (0 < l2.length) = True := eq_true (by omega); (try rw [show ((0 : Int)).toNat = 0 from rfl] at hx154_0); (try rw [Addr.add_zero'] at hx154_0); replace hx154_0 := (HB.out.cell (World.block_lt_of_cell? w _ hx154_0)).trans hx154_0; replace p154 := eq_true p154; replace q154 := eq_true q154) | (go_at_call 32; (with_reducible refine (two_AddG.calls g147 h147 t152 t153 (rdOf ByteArray.empty l2 0) t155 t156 w _ ?side1 ?side2 A20.out).mono ?_); (case side1 => repeat (first | (with_reducible first | exact HI147.out | apply IsT.alloc | apply IsT.drewN | apply IsT.drew) | exact HI147.out)); (case side2 => repeat (first | (with_reducible first | exact HB.out | apply below_alloc | apply pw_below_drewN | apply below_drew1 | refine below_set ?_ (IsT.ge HI147.out)) | exact HB.out)); rintro e w23 ⟨rfl, hi, hb, hk⟩; have n0_ := Aside0.mk (hb); have n1_ := Aside0.mk (hi); clear HB; clear HI147; have HB := n0_; have HI147 := n1_; clear n0_ n1_; (try clear hb); (try clear hb2); (try clear hk); (try clear hi))); try go_wp2_with (first | (go_at_call 32; (with_reducible refine (two_AddF.calls g147 h147 x148000_2 x148001_2 (rdOf ByteArray.empty l2 x11_2) t149 t150 w _ ?side1 ?side2 A14.out).mono ?_); (case side1 => repeat (first | (with_reducible first | exact HI147.out | apply IsT.alloc | apply IsT.drewN | apply IsT.drew) | exact HI147.out)); (case side2 => repeat (first | (with_reducible first | exact HB.out | apply below_alloc | apply pw_below_drewN | apply below_drew1 | refine below_set ?_ (IsT.ge HI147.out)) | exact HB.out)); rintro e w21 ⟨rfl, hi, hb, hk⟩; have n0_ := Aside0.mk (hb); have n1_ := Aside0.mk (hi); clear HB; clear HI147; have HB := n0_; have HI147 := n1_; clear n0_ n1_; (try clear hb); (try clear hb2); (try clear hk); (try clear hi); have p151 : 0 ≤ ((ji15) : Int) := of_decide_eq_true (by first | (with_reducible assumption) | assumption); have q151 : (ji15) < (l2.length : Int) := of_decide_eq_true (by first | (with_reducible assumption) | assumption); obtain ⟨ad151, e151, hx151_0⟩ := Kd.at_string HR2.out (ji15) p151 q151; obtain rfl : ad148 = ad151 := (by injection e151); replace hx151_0 := (HB.out.cell (World.block_lt_of_cell? w _ hx151_0)).trans hx151_0; replace p151 := eq_true p151; replace q151 := eq_true q151) | (go_at_call 32; (with_reducible refine (two_AddG.calls g147 h147 t149 t150 (rdOf ByteArray.empty l2 (ji15)) t152 t153 w _ ?side1 ?side2 A18.out).mono ?_); (case side1 => repeat (first | (with_reducible first | exact HI147.out | apply IsT.alloc | apply IsT.drewN | apply IsT.drew) | exact HI147.out)); (case side2 => repeat (first | (with_reducible first | exact HB.out | apply below_alloc | apply pw_below_drewN | apply below_drew1 | refine below_set ?_ (IsT.ge HI147.out)) | exact HB.out)); rintro e w22 ⟨rfl, hi, hb, hk⟩; have n0_ := Aside0.mk (hb); have n1_ := Aside0.mk (hi); clear HB; clear HI147; have HB := n0_; have HI147 := n1_; clear n0_ n1_; (try clear hb); (try clear hb2); (try clear hk); (try clear hi); have p154 : 0 ≤ (0 : Int) := (by omega); have q154 : 0 < (l2.length : Int) := of_decide_eq_true (by first | (with_reducible assumption) | assumption); obtain ⟨ad154, e154, hx154_0⟩ := Kd.at_string HR2.out 0 p154 q154; obtain rfl : ad148 = ad154 := (by injection e154); have qi154 : (0 < l2.length) = True := eq_true (by omega); (try rw [show ((0 : Int)).toNat = 0 from rfl] at hx154_0); (try rw [Addr.add_zero'] at hx154_0); replace hx154_0 := (HB.out.cell (World.block_lt_of_cell? w _ hx154_0)).trans hx154_0; replace p154 := eq_true p154; replace q154 := eq_true q154) | (go_at_call 32; (with_reducible refine (two_AddG.calls g147 h147 t152 t153 (rdOf ByteArray.empty l2 0) t155 t156 w _ ?side1 ?side2 A20.out).mono ?_); (case side1 => repeat (first | (with_reducible first | exact HI147.out | apply IsT.alloc | apply IsT.drewN | apply IsT.drew) | exact HI147.out)); (case side2 => repeat (first | (with_reducible first | exact HB.out | apply below_alloc | apply pw_below_drewN | apply below_drew1 | refine below_set ?_ (IsT.ge HI147.out)) | exact HB.out)); rintro e w23 ⟨rfl, hi, hb, hk⟩; have n0_ := Aside0.mk (hb); have n1_ := Aside0.mk (hi); clear HB; clear HI147; have HB := n0_; have HI147 := n1_; clear n0_ n1_; (try clear hb); (try clear hb2); (try clear hk); (try clear hi))))
            go_roundg k2
            case measure => have := HJ6.out; have := HK2.out; omega
            case rel => exact ⟨(wrap64 (x11_2 + 1)), (t155), (t156), (by first | rfl | (simp; done) | (simp [*]; done)), H', ⟨by have := HJ6.out; have := HK2.out; omega⟩, ⟨by repeat (first | (with_reducible first | exact HI147.out | apply IsT.alloc | apply IsT.drewN | apply IsT.drew) | exact HI147.out)⟩, ⟨by repeat (first | (with_reducible first | exact HB.out | apply below_alloc | apply pw_below_drewN | apply below_drew1 | refine below_set ?_ (IsT.ge HI147.out)) | exact HB.out)⟩⟩
           ·rw [if_neg c19] at H
            exact absurd H (by simp)
          ·rw [if_neg c17] at H
           exact absurd H (by simp)
         ·rw [if_neg c16] at H
          exact absurd H (by simp)
        ·rw [if_neg c13] at H
         exact absurd H (by simp)
       ·rw [if_neg c12] at H
        have c12b0 : decide (x11_2 < (l2.length : Int)) = false := decide_eq_false c12
        clear c12
        replace H := Option.bind_eq_some_iff.mp H
        obtain ⟨⟨t157, t160, t161⟩, A240, H⟩ := H
        replace H : ((two_BitsG.f t160 t161).bind fun bt162 => (if (t157.length : Int) = (bt162.1.length : Int) then (cellaretlaw7_BloomOrder.l1 k2 t157 bt162.1 0) else (some false))) = some r := H
        have A24 := Aside0.mk A240
        clear A240
        replace H := Option.bind_eq_some_iff.mp H
        obtain ⟨⟨t162, t165, t166⟩, A250, H⟩ := H
        replace H : (if (t157.length : Int) = (t162.length : Int) then (cellaretlaw7_BloomOrder.l1 k2 t157 t162 0) else (some false)) = some r := H
        have A25 := Aside0.mk A250
        clear A250
        by_cases c26 : (t157.length : Int) = (t162.length : Int)
        ·rw [if_pos c26] at H
         have c26b0 : ((t157.length : Int) == (t162.length : Int)) = true := beq_iff_eq.mpr c26
         have c26b1 : ((t157.length : Int) != (t162.length : Int)) = false := bne_eq_false_iff_eq.mpr c26
         have c26b2 : (t157.length == t162.length) = true := by first | simpa using c26 | (simp at c26 ⊢; omega)
         clear c26
         have H' := Aside0.mk H
         clear H
         go_wp2_with (first | (go_at_call 34; (with_reducible refine (two_BitsF.calls g147 h147 x148000_2 x148001_2 t157 t160 t161 w _ ?side1 ?side2 A24.out).mono ?_); (case side1 => repeat (first | (with_reducible first | exact HI147.out | apply IsT.alloc | apply IsT.drewN | apply IsT.drew) | exact HI147.out)); (case side2 => repeat (first | (with_reducible first | exact HB.out | apply below_alloc | apply pw_below_drewN | apply below_drew1 | refine below_set ?_ (IsT.ge HI147.out)) | exact HB.out)); rintro e w27 ⟨v158, rfl, ho0, hi, hb, hk⟩; have n0_ := Aside0.mk (Kd.R_lower ho0 (below_size (by repeat (first | (with_reducible first | exact HB.out | apply below_alloc | apply pw_below_drewN | apply below_drew1 | refine below_set ?_ (IsT.ge HI147.out)) | exact HB.out)))); have n1_ := Aside0.mk (hb); have n2_ := Aside0.mk (hi); clear HB; clear HI147; have HO159 := n0_; have HB := n1_; have HI147 := n2_; clear n0_ n1_ n2_; (try clear hb); (try clear hb2); (try clear hk); (try clear hi); (try clear ho0)) | (go_at_call 34; (with_reducible refine (two_BitsG.calls g147 h147 t160 t161 t162 t165 t166 w _ ?side1 ?side2 A25.out).mono ?_); (case side1 => repeat (first | (with_reducible first | exact HI147.out | apply IsT.alloc | apply IsT.drewN | apply IsT.drew) | exact HI147.out)); (case side2 => repeat (first | (with_reducible first | exact HB.out | apply below_alloc | apply pw_below_drewN | apply below_drew1 | refine below_set ?_ (IsT.ge HI147.out)) | exact HB.out)); rintro e w28 ⟨v163, rfl, ho0, hi, hb, hk⟩; have n0_ := Aside0.mk (Kd.R_mono (Kd.R_told (Kd.R_oldK (IsT.apartH (show IsT w _ g147 h147 t160 t161 from by repeat (first | (with_reducible first | exact HI147.out | apply IsT.alloc | apply IsT.drewN | apply IsT.drew) | exact HI147.out)) (by (with_reducible repeat (first | apply Kd.R_alloc | apply Kd.R_drewN | apply Kd.R_drew)); exact HO159.out) (by decide)) hk) (Kd.R_base ho0)) (fun _ h_ => h_.1)); have n1_ := Aside0.mk (Kd.R_lower (Kd.R_new' ho0 (Kd.R_lt (by (with_reducible repeat (first | apply Kd.R_alloc | apply Kd.R_drewN | apply Kd.R_drew)); exact HO159.out))) (below_size (by repeat (first | (with_reducible first | exact HB.out | apply below_alloc | apply pw_below_drewN | apply below_drew1 | refine below_set ?_ (IsT.ge HI147.out)) | exact HB.out)))); have n2_ := Aside0.mk (hb); have n3_ := Aside0.mk (hi); clear HO159; clear HB; clear HI147; have HO159 := n0_; have HO164 := n1_; have HB := n2_; have HI147 := n3_; clear n0_ n1_ n2_ n3_; (try clear hb); (try clear hb2); (try clear hk); (try clear hi); (try clear ho0); obtain ⟨Ao29, co29, eo29⟩ := Kd.R_slice HO159.out; subst eo29; obtain ⟨Ao30, co30, eo30⟩ := Kd.R_slice HO164.out; subst eo30))
         repeat (go_quiet (first | (go_at_call 34; (with_reducible refine (two_BitsF.calls g147 h147 x148000_2 x148001_2 t157 t160 t161 w _ ?side1 ?side2 A24.out).mono ?_); (case side1 => repeat (first | (with_reducible first | exact HI147.out | apply IsT.alloc | apply IsT.drewN | apply IsT.drew) | exact HI147.out)); (case side2 => repeat (first | (with_reducible first | exact HB.out | apply below_alloc | apply pw_below_drewN | apply below_drew1 | refine below_set ?_ (IsT.ge HI147.out)) | exact HB.out)); rintro e w27 ⟨v158, rfl, ho0, hi, hb, hk⟩; have n0_ := Aside0.mk (Kd.R_lower ho0 (below_size (by repeat (first | (with_reducible first | exact HB.out | apply below_alloc | apply pw_below_drewN | apply below_drew1 | refine below_set ?_ (IsT.ge HI147.out)) | exact HB.out)))); have n1_ := Aside0.mk (hb); have n2_ := Aside0.mk (hi); clear HB; clear HI147; have HO159 := n0_; have HB := n1_; have HI147 := n2_; clear n0_ n1_ n2_; (try clear hb); (try clear hb2); (try clear hk); (try clear hi); (try clear ho0)) | (go_at_call 34; (with_reducible refine (two_BitsG.calls g147 h147 t160 t161 t162 t165 t166 w _ ?side1 ?side2 A25.out).mono ?_); (case side1 => repeat (first | (with_reducible first | exact HI147.out | apply IsT.alloc | apply IsT.drewN | apply IsT.drew) | exact HI147.out)); (case side2 => repeat (first | (with_reducible first | exact HB.out | apply below_alloc | apply pw_below_drewN | apply below_drew1 | refine below_set ?_ (IsT.ge HI147.out)) | exact HB.out)); rintro e w28 ⟨v163, rfl, ho0, hi, hb, hk⟩; have n0_ := Aside0.mk (Kd.R_mono (Kd.R_told (Kd.R_oldK (IsT.apartH (show IsT w _ g147 h147 t160 t161 from by repeat (first | (with_reducible first | exact HI147.out | apply IsT.alloc | apply IsT.drewN | apply IsT.drew) | exact HI147.out)) (by (with_reducible repeat (first | apply Kd.R_alloc | apply Kd.R_drewN | apply Kd.R_drew)); exact HO159.out) (by decide)) hk) (Kd.R_base ho0)) (fun _ h_ => h_.1)); have n1_ := Aside0.mk (Kd.R_lower (Kd.R_new' ho0 (Kd.R_lt (by (with_reducible repeat (first | apply Kd.R_alloc | apply Kd.R_drewN | apply Kd.R_drew)); exact HO159.out))) (below_size (by repeat (first | (with_reducible first | exact HB.out | apply below_alloc | apply pw_below_drewN | apply below_drew1 | refine below_set ?_ (IsT.ge HI147.out)) | exact HB.out)))); have n2_ := Aside0.mk (hb); have n3_ := Aside0.mk (hi); clear HO159; clear HB; clear HI147; have HO159 := n0_; have HO164 := n1_; have HB := n2_; have HI147 := n3_; clear n0_ n1_ n2_ n3_; (try clear hb); (try clear hb2); (try clear hk); (try clear hi); (try clear ho0); obtain ⟨Ao29, co29, eo29⟩ := Kd.R_slice HO159.out; subst eo29; obtain ⟨Ao30, co30, eo30⟩ := Kd.R_slice HO164.out; subst eo30)); try go_wp2_with (first | (go_at_call 34; (with_reducible refine (two_BitsF.calls g147 h147 x148000_2 x148001_2 t157 t160 t161 w _ ?side1 ?side2 A24.out).mono ?_); (case side1 => repeat (first | (with_reducible first | exact HI147.out | apply IsT.alloc | apply IsT.drewN | apply IsT.drew) | exact HI147.out)); (case side2 => repeat (first | (with_reducible first | exact HB.out | apply below_alloc | apply pw_below_drewN | apply below_drew1 | refine below_set ?_ (IsT.ge HI147.out)) | exact HB.out)); rintro e w27 ⟨v158, rfl, ho0, hi, hb, hk⟩; have n0_ := Aside0.mk (Kd.R_lower ho0 (below_size (by repeat (first | (with_reducible first | exact HB.out | apply below_alloc | apply pw_below_drewN | apply below_drew1 | refine below_set ?_ (IsT.ge HI147.out)) | exact HB.out)))); have n1_ := Aside0.mk (hb); have n2_ := Aside0.mk (hi); clear HB; clear HI147; have HO159 := n0_; have HB := n1_; have HI147 := n2_; clear n0_ n1_ n2_; (try clear hb); (try clear hb2); (try clear hk); (try clear hi); (try clear ho0)) | (go_at_call 34; (with_reducible refine (two_BitsG.calls g147 h147 t160 t161 t162 t165 t166 w _ ?side1 ?side2 A25.out).mono ?_); (case side1 => repeat (first | (with_reducible first | exact HI147.out | apply IsT.alloc | apply IsT.drewN | apply IsT.drew) | exact HI147.out)); (case side2 => repeat (first | (with_reducible first | exact HB.out | apply below_alloc | apply pw_below_drewN | apply below_drew1 | refine below_set ?_ (IsT.ge HI147.out)) | exact HB.out)); rintro e w28 ⟨v163, rfl, ho0, hi, hb, hk⟩; have n0_ := Aside0.mk (Kd.R_mono (Kd.R_told (Kd.R_oldK (IsT.apartH (show IsT w _ g147 h147 t160 t161 from by repeat (first | (with_reducible first | exact HI147.out | apply IsT.alloc | apply IsT.drewN | apply IsT.drew) | exact HI147.out)) (by (with_reducible repeat (first | apply Kd.R_alloc | apply Kd.R_drewN | apply Kd.R_drew)); exact HO159.out) (by decide)) hk) (Kd.R_base ho0)) (fun _ h_ => h_.1)); have n1_ := Aside0.mk (Kd.R_lower (Kd.R_new' ho0 (Kd.R_lt (by (with_reducible repeat (first | apply Kd.R_alloc | apply Kd.R_drewN | apply Kd.R_drew)); exact HO159.out))) (below_size (by repeat (first | (with_reducible first | exact HB.out | apply below_alloc | apply pw_below_drewN | apply below_drew1 | refine below_set ?_ (IsT.ge HI147.out)) | exact HB.out)))); have n2_ := Aside0.mk (hb); have n3_ := Aside0.mk (hi); clear HO159; clear HB; clear HI147; have HO159 := n0_; have HO164 := n1_; have HB := n2_; have HI147 := n3_; clear n0_ n1_ n2_ n3_; (try clear hb); (try clear hb2); (try clear hk); (try clear hi); (try clear ho0); obtain ⟨Ao29, co29, eo29⟩ := Kd.R_slice HO159.out; subst eo29; obtain ⟨Ao30, co30, eo30⟩ := Kd.R_slice HO164.out; subst eo30)))
         go_loopg [14] k2 (fun kq v14 w' => ∃ (x14_3 : Int), v14 = .int .i64 x14_3 ∧ Aside0 (cellaretlaw7_BloomOrder.l1 kq t157 t162 x14_3 = some r) ∧ Aside0 (kq ≤ k2) ∧ Aside0 (Kd.R (Kd.int .i64) 3 w' w.heap.size (fun k_ => some k_ ≠ ((.slice Ao30 t162.length co30) : Value).ownBlock) (.slice Ao29 t157.length co29) t157) ∧ Aside0 (Kd.R (Kd.int .i64) 3 w' w.heap.size (fun k_ => some k_ ≠ ((.slice Ao29 t157.length co29) : Value).ownBlock) (.slice Ao30 t162.length co30) t162) ∧ Aside0 (Below w.heap.size w w'))
         case atStart => exact ⟨(0), (by first | rfl | (simp; done) | (simp [*]; done)), H', ⟨Nat.le_refl _⟩, ⟨by (with_reducible repeat (first | apply Kd.R_alloc | apply Kd.R_drewN | apply Kd.R_drew)); exact Kd.R_mono HO159.out (fun _ hk => hk.2)⟩, ⟨by (with_reducible repeat (first | apply Kd.R_alloc | apply Kd.R_drewN | apply Kd.R_drew)); exact Kd.R_mono HO164.out (fun _ hk => hk.2)⟩, ⟨by repeat (first | (with_reducible first | exact HB.out | apply below_alloc | apply pw_below_drewN | apply below_drew1 | refine below_set ?_ (IsT.ge HI147.out)) | exact HB.out)⟩⟩
         case round =>
          clear H'
          try clear c1
          try clear p1
          try clear q1
          try clear hx1
          try clear qi1
          try clear c2
          try clear p2
          try clear c5
          try clear p6
          try clear c10
          try clear c10b0
          try clear c10b1
          try clear c11
          try clear c12
          try clear c12b0
          try clear c13
          try clear c13b0
          try clear p14
          try clear q14
          try clear hx14
          try clear p15
          try clear q15
          try clear hx15
          try clear qi15
          try clear c16
          try clear c16b0
          try clear c17
          try clear c17b0
          try clear c19
          try clear c19b0
          try clear c19b1
          try clear c26
          try clear c26b0
          try clear c26b1
          try clear c26b2
          try clear hx148_0
          try clear hx151_0
          try clear hx154_0
          try clear p148
          try clear p151
          try clear p154
          try clear p2
          try clear q148
          try clear q151
          try clear q154
          obtain ⟨x14_3, rfl, HA, HK3, HO_12, HO_13, HB⟩ := hrel
          cases gk with
          | zero => exact absurd HA.out (by simp [cellaretlaw7_BloomOrder.l1])
          | succ k3 =>
           have H := HA.out
           clear HA
           simp only [cellaretlaw7_BloomOrder.l1] at H
           by_cases c31 : x14_3 < (t157.length : Int)
           ·rw [if_pos c31] at H
            have c31b0 : decide (x14_3 < (t157.length : Int)) = true := decide_eq_true c31
            clear c31
            by_cases c32 : 0 ≤ x14_3
            ·rw [if_pos c32] at H
             have c32b0 : decide (0 ≤ x14_3) = true := decide_eq_true c32
             clear c32
             by_cases c33 : x14_3 < (t162.length : Int)
             ·rw [if_pos c33] at H
              have c33b0 : decide (x14_3 < (t162.length : Int)) = true := decide_eq_true c33
              clear c33
              by_cases c34 : (rd t157 x14_3) = (rd t162 x14_3)
              ·rw [if_pos c34] at H
               have c34b0 : ((rd t157 x14_3) == (rd t162 x14_3)) = true := beq_iff_eq.mpr c34
               have c34b1 : ((rd t157 x14_3) != (rd t162 x14_3)) = false := bne_eq_false_iff_eq.mpr c34
               clear c34
               have H' := Aside0.mk H
               clear H
               have p167 : 0 ≤ (x14_3 : Int) := of_decide_eq_true (by first | (with_reducible assumption) | assumption)
               have q167 : x14_3 < (t157.length : Int) := of_decide_eq_true (by first | (with_reducible assumption) | assumption)
               obtain ⟨ad167, e167, hx167_0⟩ := Kd.at_int (Kd.R_reads' HO_12.out).2.2 x14_3 p167 q167
               cases e167
               replace p167 := eq_true p167
               replace q167 := eq_true q167
               have p168 : 0 ≤ (x14_3 : Int) := of_decide_eq_true (by first | (with_reducible assumption) | assumption)
               have q168 : x14_3 < (t162.length : Int) := of_decide_eq_true (by first | (with_reducible assumption) | assumption)
               obtain ⟨ad168, e168, hx168_0⟩ := Kd.at_int (Kd.R_reads' HO_13.out).2.2 x14_3 p168 q168
               cases e168
               replace p168 := eq_true p168
               replace q168 := eq_true q168
               go_wp2
               repeat (go_quiet (fail); try go_wp2)
               go_roundg k3
               case measure => have := HJ6.out; have := HK2.out; have := HK3.out; omega
               case rel => exact ⟨(wrap64 (x14_3 + 1)), (by first | rfl | (simp; done) | (simp [*]; done)), H', ⟨by have := HJ6.out; have := HK2.out; have := HK3.out; omega⟩, ⟨by (with_reducible repeat (first | apply Kd.R_alloc | apply Kd.R_drewN | apply Kd.R_drew)); exact HO_12.out⟩, ⟨by (with_reducible repeat (first | apply Kd.R_alloc | apply Kd.R_drewN | apply Kd.R_drew)); exact HO_13.out⟩, ⟨by repeat (first | (with_reducible first | exact HB.out | apply below_alloc | apply pw_below_drewN | apply below_drew1) | exact HB.out)⟩⟩
              ·rw [if_neg c34] at H
               have c34b0 : ((rd t157 x14_3) == (rd t162 x14_3)) = false := beq_eq_false_iff_ne.mpr c34
               have c34b1 : ((rd t157 x14_3) != (rd t162 x14_3)) = true := bne_iff_ne.mpr c34
               obtain rfl := Option.some.inj H
               have p167 : 0 ≤ (x14_3 : Int) := of_decide_eq_true (by first | (with_reducible assumption) | assumption)
               have q167 : x14_3 < (t157.length : Int) := of_decide_eq_true (by first | (with_reducible assumption) | assumption)
               obtain ⟨ad167, e167, hx167_0⟩ := Kd.at_int (Kd.R_reads' HO_12.out).2.2 x14_3 p167 q167
               cases e167
               replace p167 := eq_true p167
               replace q167 := eq_true q167
               have p168 : 0 ≤ (x14_3 : Int) := of_decide_eq_true (by first | (with_reducible assumption) | assumption)
               have q168 : x14_3 < (t162.length : Int) := of_decide_eq_true (by first | (with_reducible assumption) | assumption)
               obtain ⟨ad168, e168, hx168_0⟩ := Kd.at_int (Kd.R_reads' HO_13.out).2.2 x14_3 p168 q168
               cases e168
               replace p168 := eq_true p168
               replace q168 := eq_true q168
               go_wp2
               repeat (go_quiet (fail); try go_wp2)
               go_ret
               exact ⟨by first | rfl | (simp [errW_none, errW_some] <;> rfl) | (simp [*, errW_none, errW_some] <;> rfl), by repeat (first | (with_reducible first | exact HB.out | apply below_alloc | apply pw_below_drewN | apply below_drew1) | exact HB.out)⟩
             ·rw [if_neg c33] at H
              exact absurd H (by simp)
            ·rw [if_neg c32] at H
             exact absurd H (by simp)
           ·rw [if_neg c31] at H
            have c31b0 : decide (x14_3 < (t157.length : Int)) = false := decide_eq_false c31
            clear c31
            obtain rfl := Option.some.inj H
            go_wp2
            repeat (go_quiet (fail); try go_wp2)
            go_ret
            exact ⟨by first | rfl | (simp [errW_none, errW_some] <;> rfl) | (simp [*, errW_none, errW_some] <;> rfl), by repeat (first | (with_reducible first | exact HB.out | apply below_alloc | apply pw_below_drewN | apply below_drew1) | exact HB.out)⟩
        ·rw [if_neg c26] at H
         have c26b0 : ((t157.length : Int) == (t162.length : Int)) = false := beq_eq_false_iff_ne.mpr c26
         have c26b1 : ((t157.length : Int) != (t162.length : Int)) = true := bne_iff_ne.mpr c26
         have c26b2 : (t157.length == t162.length) = false := by first | simpa using c26 | (simp at c26 ⊢; omega)
         obtain rfl := Option.some.inj H
         go_wp2_with (first | (go_at_call 34; (with_reducible refine (two_BitsF.calls g147 h147 x148000_2 x148001_2 t157 t160 t161 w _ ?side1 ?side2 A24.out).mono ?_); (case side1 => repeat (first | (with_reducible first | exact HI147.out | apply IsT.alloc | apply IsT.drewN | apply IsT.drew) | exact HI147.out)); (case side2 => repeat (first | (with_reducible first | exact HB.out | apply below_alloc | apply pw_below_drewN | apply below_drew1 | refine below_set ?_ (IsT.ge HI147.out)) | exact HB.out)); rintro e w35 ⟨v158, rfl, ho0, hi, hb, hk⟩; have n0_ := Aside0.mk (Kd.R_lower ho0 (below_size (by repeat (first | (with_reducible first | exact HB.out | apply below_alloc | apply pw_below_drewN | apply below_drew1 | refine below_set ?_ (IsT.ge HI147.out)) | exact HB.out)))); have n1_ := Aside0.mk (hb); have n2_ := Aside0.mk (hi); clear HB; clear HI147; have HO159 := n0_; have HB := n1_; have HI147 := n2_; clear n0_ n1_ n2_; (try clear hb); (try clear hb2); (try clear hk); (try clear hi); (try clear ho0)) | (go_at_call 34; (with_reducible refine (two_BitsG.calls g147 h147 t160 t161 t162 t165 t166 w _ ?side1 ?side2 A25.out).mono ?_); (case side1 => repeat (first | (with_reducible first | exact HI147.out | apply IsT.alloc | apply IsT.drewN | apply IsT.drew) | exact HI147.out)); (case side2 => repeat (first | (with_reducible first | exact HB.out | apply below_alloc | apply pw_below_drewN | apply below_drew1 | refine below_set ?_ (IsT.ge HI147.out)) | exact HB.out)); rintro e w36 ⟨v163, rfl, ho0, hi, hb, hk⟩; have n0_ := Aside0.mk (Kd.R_mono (Kd.R_told (Kd.R_oldK (IsT.apartH (show IsT w _ g147 h147 t160 t161 from by repeat (first | (with_reducible first | exact HI147.out | apply IsT.alloc | apply IsT.drewN | apply IsT.drew) | exact HI147.out)) (by (with_reducible repeat (first | apply Kd.R_alloc | apply Kd.R_drewN | apply Kd.R_drew)); exact HO159.out) (by decide)) hk) (Kd.R_base ho0)) (fun _ h_ => h_.1)); have n1_ := Aside0.mk (Kd.R_lower (Kd.R_new' ho0 (Kd.R_lt (by (with_reducible repeat (first | apply Kd.R_alloc | apply Kd.R_drewN | apply Kd.R_drew)); exact HO159.out))) (below_size (by repeat (first | (with_reducible first | exact HB.out | apply below_alloc | apply pw_below_drewN | apply below_drew1 | refine below_set ?_ (IsT.ge HI147.out)) | exact HB.out)))); have n2_ := Aside0.mk (hb); have n3_ := Aside0.mk (hi); clear HO159; clear HB; clear HI147; have HO159 := n0_; have HO164 := n1_; have HB := n2_; have HI147 := n3_; clear n0_ n1_ n2_ n3_; (try clear hb); (try clear hb2); (try clear hk); (try clear hi); (try clear ho0); obtain ⟨Ao37, co37, eo37⟩ := Kd.R_slice HO159.out; subst eo37; obtain ⟨Ao38, co38, eo38⟩ := Kd.R_slice HO164.out; subst eo38))
         repeat (go_quiet (first | (go_at_call 34; (with_reducible refine (two_BitsF.calls g147 h147 x148000_2 x148001_2 t157 t160 t161 w _ ?side1 ?side2 A24.out).mono ?_); (case side1 => repeat (first | (with_reducible first | exact HI147.out | apply IsT.alloc | apply IsT.drewN | apply IsT.drew) | exact HI147.out)); (case side2 => repeat (first | (with_reducible first | exact HB.out | apply below_alloc | apply pw_below_drewN | apply below_drew1 | refine below_set ?_ (IsT.ge HI147.out)) | exact HB.out)); rintro e w35 ⟨v158, rfl, ho0, hi, hb, hk⟩; have n0_ := Aside0.mk (Kd.R_lower ho0 (below_size (by repeat (first | (with_reducible first | exact HB.out | apply below_alloc | apply pw_below_drewN | apply below_drew1 | refine below_set ?_ (IsT.ge HI147.out)) | exact HB.out)))); have n1_ := Aside0.mk (hb); have n2_ := Aside0.mk (hi); clear HB; clear HI147; have HO159 := n0_; have HB := n1_; have HI147 := n2_; clear n0_ n1_ n2_; (try clear hb); (try clear hb2); (try clear hk); (try clear hi); (try clear ho0)) | (go_at_call 34; (with_reducible refine (two_BitsG.calls g147 h147 t160 t161 t162 t165 t166 w _ ?side1 ?side2 A25.out).mono ?_); (case side1 => repeat (first | (with_reducible first | exact HI147.out | apply IsT.alloc | apply IsT.drewN | apply IsT.drew) | exact HI147.out)); (case side2 => repeat (first | (with_reducible first | exact HB.out | apply below_alloc | apply pw_below_drewN | apply below_drew1 | refine below_set ?_ (IsT.ge HI147.out)) | exact HB.out)); rintro e w36 ⟨v163, rfl, ho0, hi, hb, hk⟩; have n0_ := Aside0.mk (Kd.R_mono (Kd.R_told (Kd.R_oldK (IsT.apartH (show IsT w _ g147 h147 t160 t161 from by repeat (first | (with_reducible first | exact HI147.out | apply IsT.alloc | apply IsT.drewN | apply IsT.drew) | exact HI147.out)) (by (with_reducible repeat (first | apply Kd.R_alloc | apply Kd.R_drewN | apply Kd.R_drew)); exact HO159.out) (by decide)) hk) (Kd.R_base ho0)) (fun _ h_ => h_.1)); have n1_ := Aside0.mk (Kd.R_lower (Kd.R_new' ho0 (Kd.R_lt (by (with_reducible repeat (first | apply Kd.R_alloc | apply Kd.R_drewN | apply Kd.R_drew)); exact HO159.out))) (below_size (by repeat (first | (with_reducible first | exact HB.out | apply below_alloc | apply pw_below_drewN | apply below_drew1 | refine below_set ?_ (IsT.ge HI147.out)) | exact HB.out)))); have n2_ := Aside0.mk (hb); have n3_ := Aside0.mk (hi); clear HO159; clear HB; clear HI147; have HO159 := n0_; have HO164 := n1_; have HB := n2_; have HI147 := n3_; clear n0_ n1_ n2_ n3_; (try clear hb); (try clear hb2); (try clear hk); (try clear hi); (try clear ho0); obtain ⟨Ao37, co37, eo37⟩ := Kd.R_slice HO159.out; subst eo37; obtain ⟨Ao38, co38, eo38⟩ := Kd.R_slice HO164.out; subst eo38)); try go_wp2_with (first | (go_at_call 34; (with_reducible refine (two_BitsF.calls g147 h147 x148000_2 x148001_2 t157 t160 t161 w _ ?side1 ?side2 A24.out).mono ?_); (case side1 => repeat (first | (with_reducible first | exact HI147.out | apply IsT.alloc | apply IsT.drewN | apply IsT.drew) | exact HI147.out)); (case side2 => repeat (first | (with_reducible first | exact HB.out | apply below_alloc | apply pw_below_drewN | apply below_drew1 | refine below_set ?_ (IsT.ge HI147.out)) | exact HB.out)); rintro e w35 ⟨v158, rfl, ho0, hi, hb, hk⟩; have n0_ := Aside0.mk (Kd.R_lower ho0 (below_size (by repeat (first | (with_reducible first | exact HB.out | apply below_alloc | apply pw_below_drewN | apply below_drew1 | refine below_set ?_ (IsT.ge HI147.out)) | exact HB.out)))); have n1_ := Aside0.mk (hb); have n2_ := Aside0.mk (hi); clear HB; clear HI147; have HO159 := n0_; have HB := n1_; have HI147 := n2_; clear n0_ n1_ n2_; (try clear hb); (try clear hb2); (try clear hk); (try clear hi); (try clear ho0)) | (go_at_call 34; (with_reducible refine (two_BitsG.calls g147 h147 t160 t161 t162 t165 t166 w _ ?side1 ?side2 A25.out).mono ?_); (case side1 => repeat (first | (with_reducible first | exact HI147.out | apply IsT.alloc | apply IsT.drewN | apply IsT.drew) | exact HI147.out)); (case side2 => repeat (first | (with_reducible first | exact HB.out | apply below_alloc | apply pw_below_drewN | apply below_drew1 | refine below_set ?_ (IsT.ge HI147.out)) | exact HB.out)); rintro e w36 ⟨v163, rfl, ho0, hi, hb, hk⟩; have n0_ := Aside0.mk (Kd.R_mono (Kd.R_told (Kd.R_oldK (IsT.apartH (show IsT w _ g147 h147 t160 t161 from by repeat (first | (with_reducible first | exact HI147.out | apply IsT.alloc | apply IsT.drewN | apply IsT.drew) | exact HI147.out)) (by (with_reducible repeat (first | apply Kd.R_alloc | apply Kd.R_drewN | apply Kd.R_drew)); exact HO159.out) (by decide)) hk) (Kd.R_base ho0)) (fun _ h_ => h_.1)); have n1_ := Aside0.mk (Kd.R_lower (Kd.R_new' ho0 (Kd.R_lt (by (with_reducible repeat (first | apply Kd.R_alloc | apply Kd.R_drewN | apply Kd.R_drew)); exact HO159.out))) (below_size (by repeat (first | (with_reducible first | exact HB.out | apply below_alloc | apply pw_below_drewN | apply below_drew1 | refine below_set ?_ (IsT.ge HI147.out)) | exact HB.out)))); have n2_ := Aside0.mk (hb); have n3_ := Aside0.mk (hi); clear HO159; clear HB; clear HI147; have HO159 := n0_; have HO164 := n1_; have HB := n2_; have HI147 := n3_; clear n0_ n1_ n2_ n3_; (try clear hb); (try clear hb2); (try clear hk); (try clear hi); (try clear ho0); obtain ⟨Ao37, co37, eo37⟩ := Kd.R_slice HO159.out; subst eo37; obtain ⟨Ao38, co38, eo38⟩ := Kd.R_slice HO164.out; subst eo38)))
         go_ret
         exact ⟨by first | rfl | (simp [errW_none, errW_some] <;> rfl) | (simp [*, errW_none, errW_some] <;> rfl), by repeat (first | (with_reducible first | exact HB.out | apply below_alloc | apply pw_below_drewN | apply below_drew1 | refine below_set ?_ (IsT.ge HI147.out)) | exact HB.out)⟩
 ·replace c5 := Bool.eq_false_iff.mpr c5
  subst c5
  have H1 : (some false) = some r := by rw [if_neg (show ¬ (false = true) by decide)] at H; exact H
  clear H
  have H := H1
  clear H1
  obtain rfl := Option.some.inj H
  go_enter Try.func13, Try.ntmps13
  go_wp2_with (first | (go_at_call 30; (with_reducible refine (cellaretlaw7_awake.calls k  false _ A4.out).mono ?_); rintro e w39 ⟨rfl, hb⟩; have n0_ := Aside0.mk (below_step (by repeat (first | (with_reducible first | exact HB.out | apply below_alloc | apply pw_below_drewN | apply below_drew1) | exact HB.out)) hb); clear HB; have HB := n0_; clear n0_; (try clear hb); (try clear hb2); (try clear hk); (try clear hi)))
  repeat (go_quiet (first | (go_at_call 30; (with_reducible refine (cellaretlaw7_awake.calls k  false _ A4.out).mono ?_); rintro e w39 ⟨rfl, hb⟩; have n0_ := Aside0.mk (below_step (by repeat (first | (with_reducible first | exact HB.out | apply below_alloc | apply pw_below_drewN | apply below_drew1) | exact HB.out)) hb); clear HB; have HB := n0_; clear n0_; (try clear hb); (try clear hb2); (try clear hk); (try clear hi))); try go_wp2_with (first | (go_at_call 30; (with_reducible refine (cellaretlaw7_awake.calls k  false _ A4.out).mono ?_); rintro e w39 ⟨rfl, hb⟩; have n0_ := Aside0.mk (below_step (by repeat (first | (with_reducible first | exact HB.out | apply below_alloc | apply pw_below_drewN | apply below_drew1) | exact HB.out)) hb); clear HB; have HB := n0_; clear n0_; (try clear hb); (try clear hb2); (try clear hk); (try clear hi))))
  go_ret
  exact ⟨by first | rfl | (simp [errW_none, errW_some] <;> rfl) | (simp [*, errW_none, errW_some] <;> rfl), by repeat (first | (with_reducible first | exact HB.out | apply below_alloc | apply pw_below_drewN | apply below_drew1) | exact HB.out)⟩


end Go.Proofs.Ytefalfheeofhhaa.QW
