/- A filter of one's own: its two blocks in memory, and what the functions of chapter 7 do with it; no condition beyond what each statement names. -/
import Derived.Test.YtefalfheeofhhaaQVFacts
import Derived.Lib.SliceRun
namespace Go.Proofs.Ytefalfheeofhhaa.QW
open Go.RowKit Go.Proofs.YtefalfheeofhhaaW.PrintWords Go.Proofs.YtefalfheeofhhaaW.PrintLast Go.Proofs.YtefalfheeofhhaaW.PrintMore
open Go.Proofs.Ytefalfheeofhhaa.QV (errW errW_none errW_some info3)
open BloomFacts (places place)
attribute [local go_sem] max2_int min2_int max_two min_two max_three min_three max_four min_four
set_option linter.unusedVariables false
set_option linter.unusedSimpArgs false

def Fok (f0 : List Bool) (f1 : Int) : Prop := 8 ≤ f0.length ∧ f0.length ≤ 65536 ∧ 1 ≤ f1 ∧ f1 ≤ 8
/-- A filter at block g of W: its row lies right before it, both made behind w0's end. -/
def IsS76 (w0 W : World) (g : Nat) (f0 : List Bool) (f1 : Int) : Prop := ∃ b c0, W.heap[g]? = some (.cells #[.slice (some ⟨b, 0, none⟩) f0.length c0, .int .i64 f1] 76 (0, 0)) ∧ W.heap[b]? = some (.cells (bools f0).toArray 4 (0, 0)) ∧ w0.heap.size ≤ b ∧ b + 1 = g ∧ Fok f0 f1
theorem IsS76.move {w0 W : World} {g : Nat} {f0 : List Bool} {f1 : Int} {W1 : World} (h : IsS76 w0 W g f0 f1) (hm : ∀ k, k < W.heap.size → (k = g ∨ k + 1 = g) → W1.heap[k]? = W.heap[k]?) : IsS76 w0 W1 g f0 f1 := by
 obtain ⟨b, c0, hb, hr, hg, he, ho⟩ := h
 exact ⟨b, c0, (hm g (blk_lt hb) (.inl rfl)).trans hb, (hm b (blk_lt hr) (.inr he)).trans hr, hg, he, ho⟩
theorem IsS76.below {w0 W : World} {g : Nat} {f0 : List Bool} {f1 : Int} {W1 : World} (h : IsS76 w0 W g f0 f1) (hw : Below W.heap.size W W1) : IsS76 w0 W1 g f0 f1 := h.move (fun k hk _ => hw.block k hk)
theorem IsS76.alloc {w0 W : World} {g : Nat} {f0 : List Bool} {f1 : Int} (h : IsS76 w0 W g f0 f1) (o : Obj) : IsS76 w0 (W.alloc o) g f0 f1 := h.below (below_alloc (Below.refl _ _) o)
theorem IsS76.drewN {w0 W : World} {g : Nat} {f0 : List Bool} {f1 : Int} (h : IsS76 w0 W g f0 f1) (m : Nat) : IsS76 w0 (W.drewN m) g f0 f1 := h
theorem IsS76.drew {w0 W : World} {g : Nat} {f0 : List Bool} {f1 : Int} (h : IsS76 w0 W g f0 f1) : IsS76 w0 W.drew g f0 f1 := h
theorem IsS76.at_ {w0 W : World} {g : Nat} {f0 : List Bool} {f1 : Int} {w' : World} {m : Nat} (hq : W.drewN m = w') (h : IsS76 w0 W g f0 f1) : IsS76 w0 w' g f0 f1 := by subst hq; exact IsS76.drewN h m
theorem IsS76.ge {w0 W : World} {g : Nat} {f0 : List Bool} {f1 : Int} (h : IsS76 w0 W g f0 f1) : w0.heap.size ≤ g := by
 obtain ⟨b, c0, hb, hr, hg, he, ho⟩ := h
 omega
theorem IsS76.ok {w0 W : World} {g : Nat} {f0 : List Bool} {f1 : Int} (h : IsS76 w0 W g f0 f1) : Fok f0 f1 := by
 obtain ⟨b, c0, hb, hr, hg, he, ho⟩ := h
 exact ho
theorem IsS76.apart {w0 W : World} {g : Nat} {f0 : List Bool} {f1 : Int} {α : Type} {d : Kd α} {e : Nat} {base : Nat} {ok : Nat → Prop} {v : Value} {xs : List α} (h : IsS76 w0 W g f0 f1) (ho : d.R e W base ok v xs) (ht : ∀ q, q ∈ e :: d.E → q ≠ 76 ∧ q ≠ 4) : d.R e W base (fun k => ok k ∧ k ≠ g ∧ k + 1 ≠ g) v xs := by
 obtain ⟨b, c0, hb, hr, hg, he, _⟩ := h
 refine Kd.R_mono (Kd.R_types (Kd.R_types ho hb (fun q hq => (ht q hq).1)) hr (fun q hq => (ht q hq).2)) (fun k hk => ⟨hk.1.1, hk.1.2, ?_⟩)
 have := hk.2
 omega
/-- What is not the filter's own stays, whatever the filter's functions do. -/
theorem R_keepF {α : Type} {d : Kd α} {e base g : Nat} {ok : Nat → Prop} {w w1 : World} {v : Value} {xs : List α} {row : Option Nat} (h : d.R e w base ok v xs) (hk : KeepBut w w1 g row) (hok : ∀ k, ok k → k ≠ g ∧ k + 1 ≠ g) (hr : row = none ∨ row = some (g - 1) := by first | exact Or.inl rfl | exact Or.inr rfl) : d.R e w1 base ok v xs :=
 Kd.R_step h (fun k ho hlt => hk.2 k hlt (hok k ho).1 (by
  have := hok k ho
  rcases hr with rfl | rfl
  · simp
  · simp only [ne_eq, Option.some.injEq]
    omega))
/-- A store into the row. -/
theorem IsS76.bit {w0 W : World} {g b : Nat} {f0 : List Bool} {f1 : Int} (h : IsS76 w0 W g f0 f1) (hbg : b + 1 = g) (i : Nat) (x : Bool) : IsS76 w0 (W.setCell ⟨b, i, none⟩ (.bool x)) g (f0.set i x) f1 := by
 obtain ⟨b', c0, hb, hr, hg, he, ho⟩ := h
 obtain rfl : b' = b := by omega
 refine ⟨b', c0, ?_, ?_, hg, he, ?_⟩
 · rw [List.length_set]
   exact blk_far hb (show g ≠ b' by omega) _
 · have := blk_set hr i (.bool x)
   rw [this]
   simp [bools, List.map_set]
 · unfold Fok at ho ⊢
   rw [List.length_set]
   exact ho
/-! ### The world cut off at the filter -/
def cut (W : World) (g : Nat) : World := { W with heap := W.heap.extract 0 g }
theorem cut_size (W : World) (g : Nat) (h : g ≤ W.heap.size) : (cut W g).heap.size = g := by simp [cut]; omega
theorem cut_get (W : World) (g k : Nat) (h : g ≤ W.heap.size) (hk : k < g) : (cut W g).heap[k]? = W.heap[k]? := by
 simp [cut, Array.getElem?_extract, hk]
 omega
theorem cut_below {W : World} {g : Nat} (h : g ≤ W.heap.size) : Below (cut W g).heap.size (cut W g) W :=
 ⟨rfl, rfl, rfl, by rw [cut_size W g h]; exact h, fun k hk => (cut_get W g k h (by rwa [cut_size W g h] at hk)).symm⟩
theorem bools_get (xs : List Bool) (i : Nat) : (bools xs)[i]? = xs[i]?.map Value.bool := by simp [bools]
theorem row_reads {W : World} {b : Nat} {f0 : List Bool} (hr : W.heap[b]? = some (.cells (bools f0).toArray 4 (0, 0))) (hl : f0.length ≤ 65536) : Kd.C Kd.bool W (some ⟨b, 0, none⟩) f0.length f0 := by
 refine ⟨rfl, by omega, fun _ => ⟨_, rfl, fun j p hj => ⟨[.bool p], rfl, rfl, fun i u hi => ?_⟩⟩⟩
 cases i with
 | zero =>
  have hu : Value.bool p = u := by simpa using hi
  subst hu
  have h1 : (⟨b, 0, none⟩ : Addr).add (j * 1 + 0) = ⟨b, j, none⟩ := by
   unfold Addr.add
   split
   · simp
   · simp
  show W.cell? ((⟨b, 0, none⟩ : Addr).add (j * 1 + 0)) = _
  rw [h1, blk_cell hr, List.getElem?_toArray, bools_get, hj]
  rfl
 | succ i => simp at hi
theorem IsS76.lend {w0 W : World} {g : Nat} {f0 : List Bool} {f1 : Int} (h : IsS76 w0 W g f0 f1) : QV.IsS76 (cut W g) W g f0 f1 ∧ Below (cut W g).heap.size (cut W g) W := by
 obtain ⟨b, c0, hb, hr, hg, he, ho⟩ := h
 have hle : g ≤ W.heap.size := Nat.le_of_lt (blk_lt hb)
 refine ⟨⟨some ⟨b, 0, none⟩, c0, hb, ⟨by rw [cut_size W g hle]; exact Nat.le_refl _, by rw [cut_size W g hle, ← he]; rfl⟩, ?_⟩, cut_below hle⟩
 exact row_reads ((cut_get W g b hle (by omega)).trans hr) ho.2.1
theorem IsS76.back {w0 W W1 : World} {g : Nat} {f0 : List Bool} {f1 : Int} (h : IsS76 w0 W g f0 f1) (hB : Below w0.heap.size w0 W) (hI : QV.IsS76 (cut W g) W1 g f0 f1) (hb1 : Below (cut W g).heap.size (cut W g) W1) (hk : KeepBut W W1 g none) : IsS76 w0 W1 g f0 f1 ∧ Below w0.heap.size w0 W1 := by
 obtain ⟨b, c0, hb, hr, hg, he, ho⟩ := h
 have hle : g ≤ W.heap.size := Nat.le_of_lt (blk_lt hb)
 obtain ⟨A1, c1, hb2, ⟨_, hA⟩, _⟩ := hI
 rw [cut_size W g hle, ← he, Nat.add_sub_cancel] at hA
 subst hA
 refine ⟨⟨b, c1, hb2, ?_, hg, he, ho⟩, ?_⟩
 · rw [hb1.block b (by rw [cut_size W g hle]; omega), cut_get W g b hle (by omega)]
   exact hr
 · refine ⟨hb1.os.trans hB.os, hb1.tape.trans hB.tape, hb1.output.trans hB.output, Nat.le_trans hB.size hk.1, fun k hlt => ?_⟩
   rw [hb1.block k (by rw [cut_size W g hle]; omega), cut_get W g k hle (by omega)]
   exact hB.block k hlt

/-! ### The functions -/
def top : Nat := 9223372036854775806
def pls (s : ByteArray) (f0 : List Bool) (f1 : Int) : List Nat := places s f0.length f1.toNat
def addS (f0 : List Bool) (ps : List Nat) : List Bool := ps.foldl (fun l p => l.set p true) f0
def bits (f0 : List Bool) : List Nat := (List.range f0.length).filter (fun i => f0.getD i false)
theorem addS_length (ps : List Nat) : ∀ f0 : List Bool, (addS f0 ps).length = f0.length := by
 induction ps with
 | nil => intro _; rfl
 | cons p ps ih => intro f0; exact (ih _).trans (List.length_set ..)

theorem bloom_Filter_places.calls (g : Nat) (s0_0 : List Bool) (s0_1 : Int) (a1 : ByteArray) (w0 w : World) (hI : IsS76 w0 w g s0_0 s0_1) (hB : Below w0.heap.size w0 w) (hs : a1.size < top) :
  Calls Try.prog 54 #[.pointer (some ⟨g, 0, none⟩), .string a1] w fun e w' => ∃ v0_ : Value, e = .returned (v0_) ∧ Kd.R (Kd.int .i64) 3 w' w.heap.size (fun _ => True) v0_ ((pls a1 s0_0 s0_1).map Int.ofNat) ∧ IsS76 w0 w' g s0_0 s0_1 ∧ Below w0.heap.size w0 w' ∧ KeepBut w w' g none := by
 obtain ⟨h1, h2, h3, h4⟩ := hI.ok
 have hn : ((s0_1.toNat : Nat) : Int) = s0_1 := by omega
 have hp := BloomFacts.places_ok a1 (by unfold top at hs; omega) s0_0 (by omega) h2 s0_1.toNat (by omega) (k := a1.size + 10) (Nat.le_refl _)
 rw [hn] at hp
 refine (QV.bloom_Filter_places.calls (a1.size + 10) g s0_0 s0_1 a1 _ _ (cut w g) w hI.lend.1 hI.lend.2 hp).mono ?_
 rintro e w' ⟨v0, rfl, hr, hi, hb, hk⟩
 obtain ⟨hi2, hb2⟩ := hI.back hB hi hb hk
 exact ⟨v0, rfl, hr, hi2, hb2, hk⟩

/-! ### May -/
def bloom_Filter_May.f (s0_0 : List Bool) (s0_1 : Int) (a1 : ByteArray) : Option (Bool × List Bool × Int) := if a1.size < top then some ((pls a1 s0_0 s0_1).all (fun p => s0_0.getD p false), s0_0, s0_1) else none
theorem rd_ofNat (ps : List Nat) (m : Nat) (h : m < ps.length) : rd (ps.map Int.ofNat) (m : Int) = (ps[m] : Int) := by
 simp [rd, List.getD_eq_getElem?_getD, h]
theorem may_l0 (set : List Bool) (T : Int) (ps : List Nat) (hp : ∀ p ∈ ps, p < set.length) (hl : ps.length ≤ 8) (d : Nat) : ∀ (k m : Nat), m + d = ps.length → d + 1 ≤ k →
  QV.bloom_Filter_May.l0 k (ps.map Int.ofNat) (ps.length : Int) (m : Int) set T = some ((ps.drop m).all (fun p => set.getD p false), T) := by
 induction d with
 | zero =>
  intro k m hm hk
  obtain ⟨k, rfl⟩ : ∃ q, k = q + 1 := ⟨k - 1, by omega⟩
  simp only [QV.bloom_Filter_May.l0]
  rw [if_neg (by omega), List.drop_of_length_le (by omega)]
  rfl
 | succ d ih =>
  intro k m hm hk
  obtain ⟨k, rfl⟩ : ∃ q, k = q + 1 := ⟨k - 1, by omega⟩
  have hm2 : m < ps.length := by omega
  have hq := hp _ (List.getElem_mem hm2)
  simp only [QV.bloom_Filter_May.l0]
  rw [if_pos (by omega), if_pos (by omega), if_pos (by simp; omega), rd_ofNat ps m hm2, if_pos (by omega), if_pos (by omega), List.drop_eq_getElem_cons hm2, List.all_cons, BloomFacts.wrap_succ m (by omega), ih k (m + 1) (by omega) (by omega)]
  have h3 : rdOf false set ((ps[m] : Nat) : Int) = set.getD ps[m] false := by simp [rdOf]
  rw [h3]
  cases set.getD ps[m] false <;> simp
theorem pls_lt (s : ByteArray) (f0 : List Bool) (f1 : Int) (h : 0 < f0.length) : ∀ p ∈ pls s f0 f1, p < f0.length := by
 intro p hp
 obtain ⟨i, _, rfl⟩ := List.mem_map.1 hp
 exact BloomFacts.place_lt s h i
theorem pls_length (s : ByteArray) (f0 : List Bool) (f1 : Int) : (pls s f0 f1).length = f1.toNat := by simp [pls, places]
theorem bloom_Filter_May.calls (g : Nat) (s0_0 : List Bool) (s0_1 : Int) (a1 : ByteArray) (r1 : Bool) (r2 : List Bool) (r3 : Int) (w0 w : World) (hI : IsS76 w0 w g s0_0 s0_1) (hB : Below w0.heap.size w0 w) (h : bloom_Filter_May.f s0_0 s0_1 a1 = some (r1, r2, r3)) :
  Calls Try.prog 36 #[.pointer (some ⟨g, 0, none⟩), .string a1] w fun e w' => e = .returned (.bool r1) ∧ IsS76 w0 w' g r2 r3 ∧ Below w0.heap.size w0 w' ∧ KeepBut w w' g none := by
 unfold bloom_Filter_May.f at h
 split at h
 · rename_i hs
   simp only [Option.some.injEq, Prod.mk.injEq] at h
   obtain ⟨rfl, rfl, rfl⟩ := h
   obtain ⟨h1, h2, h3, h4⟩ := hI.ok
   have hn : ((s0_1.toNat : Nat) : Int) = s0_1 := by omega
   have hp := BloomFacts.places_ok a1 (by unfold top at hs; omega) s0_0 (by omega) h2 s0_1.toNat (by omega) (k := a1.size + 20) (by omega)
   rw [hn] at hp
   have hm : QV.bloom_Filter_May.f (a1.size + 20) s0_0 s0_1 a1 = some ((pls a1 s0_0 s0_1).all (fun p => s0_0.getD p false), s0_1) := by
    unfold QV.bloom_Filter_May.f
    rw [hp]
    rw [Option.bind_some]
    have := may_l0 s0_0 s0_1 (pls a1 s0_0 s0_1) (pls_lt a1 s0_0 s0_1 (by omega)) (by rw [pls_length]; omega) (pls a1 s0_0 s0_1).length (a1.size + 20) 0 (by omega) (by rw [pls_length]; omega)
    simpa [pls] using this
   refine (QV.bloom_Filter_May.calls (a1.size + 20) g s0_0 s0_1 a1 _ _ (cut w g) w hI.lend.1 hI.lend.2 hm).mono ?_
   rintro e w' ⟨rfl, hi, hb, hk⟩
   obtain ⟨hi2, hb2⟩ := hI.back hB hi hb hk
   exact ⟨rfl, hi2, hb2, hk⟩
 · exact absurd h (by simp)

/-! ### Bits, Count -/
def bloom_Filter_Bits.f (s0_0 : List Bool) (s0_1 : Int) : Option (List Int × List Bool × Int) := some ((bits s0_0).map Int.ofNat, s0_0, s0_1)
def bloom_Filter_Count.f (s0_0 : List Bool) (s0_1 : Int) : Option (Int × List Bool × Int) := some (((bits s0_0).length : Int), s0_0, s0_1)
theorem bits_l0 (set : List Bool) (T : Int) (hs : set.length ≤ 65536) (d : Nat) : ∀ (k m : Nat) (acc : List Int), m + d = set.length → acc.length ≤ m → d + 1 ≤ k →
  QV.bloom_Filter_Bits.l0 k acc set (set.length : Int) (m : Int) set T = some (acc ++ ((List.range' m d).filter (fun i => set.getD i false)).map Int.ofNat, T) := by
 induction d with
 | zero =>
  intro k m acc hm ha hk
  obtain ⟨k, rfl⟩ : ∃ q, k = q + 1 := ⟨k - 1, by omega⟩
  simp only [QV.bloom_Filter_Bits.l0]
  rw [if_neg (by omega)]
  simp
 | succ d ih =>
  intro k m acc hm ha hk
  obtain ⟨k, rfl⟩ : ∃ q, k = q + 1 := ⟨k - 1, by omega⟩
  have h3 : rdOf false set (m : Int) = set.getD m false := by simp [rdOf]
  simp only [QV.bloom_Filter_Bits.l0]
  rw [if_pos (by omega), if_pos (by omega), if_pos (by omega), h3, BloomFacts.wrap_succ m (by omega), List.range'_succ, List.filter_cons]
  by_cases hc : set.getD m false = true
  · rw [if_pos hc, if_pos (by omega), ih k (m + 1) _ (by omega) (by simp; omega) (by omega), if_pos hc]
    simp
  · rw [if_neg hc, ih k (m + 1) _ (by omega) (by omega) (by omega), if_neg hc]
theorem bits_ok (set : List Bool) (T : Int) (hs : set.length ≤ 65536) {k : Nat} (hk : set.length + 1 ≤ k) : QV.bloom_Filter_Bits.f k set T = some ((bits set).map Int.ofNat, T) := by
 unfold QV.bloom_Filter_Bits.f
 have := bits_l0 set T hs set.length k 0 [] (by omega) (Nat.le_refl _) hk
 rw [show ((0 : Nat) : Int) = 0 from rfl] at this
 rw [this]
 simp [bits, List.range_eq_range']
theorem bloom_Filter_Bits.calls (g : Nat) (s0_0 : List Bool) (s0_1 : Int) (r1 : List Int) (r2 : List Bool) (r3 : Int) (w0 w : World) (hI : IsS76 w0 w g s0_0 s0_1) (hB : Below w0.heap.size w0 w) (h : bloom_Filter_Bits.f s0_0 s0_1 = some (r1, r2, r3)) :
  Calls Try.prog 34 #[.pointer (some ⟨g, 0, none⟩)] w fun e w' => ∃ v0_ : Value, e = .returned (v0_) ∧ Kd.R (Kd.int .i64) 3 w' w.heap.size (fun _ => True) v0_ r1 ∧ IsS76 w0 w' g r2 r3 ∧ Below w0.heap.size w0 w' ∧ KeepBut w w' g none := by
 unfold bloom_Filter_Bits.f at h
 simp only [Option.some.injEq, Prod.mk.injEq] at h
 obtain ⟨rfl, rfl, rfl⟩ := h
 obtain ⟨h1, h2, h3, h4⟩ := hI.ok
 refine (QV.bloom_Filter_Bits.calls (s0_0.length + 1) g s0_0 s0_1 _ _ (cut w g) w hI.lend.1 hI.lend.2 (bits_ok s0_0 s0_1 h2 (Nat.le_refl _))).mono ?_
 rintro e w' ⟨v0, rfl, hr, hi, hb, hk⟩
 obtain ⟨hi2, hb2⟩ := hI.back hB hi hb hk
 exact ⟨v0, rfl, hr, hi2, hb2, hk⟩
theorem bloom_Filter_Count.calls (g : Nat) (s0_0 : List Bool) (s0_1 : Int) (r1 : Int) (r2 : List Bool) (r3 : Int) (w0 w : World) (hI : IsS76 w0 w g s0_0 s0_1) (hB : Below w0.heap.size w0 w) (h : bloom_Filter_Count.f s0_0 s0_1 = some (r1, r2, r3)) :
  Calls Try.prog 35 #[.pointer (some ⟨g, 0, none⟩)] w fun e w' => e = .returned (.int .i64 r1) ∧ IsS76 w0 w' g r2 r3 ∧ Below w0.heap.size w0 w' ∧ KeepBut w w' g none := by
 unfold bloom_Filter_Count.f at h
 simp only [Option.some.injEq, Prod.mk.injEq] at h
 obtain ⟨rfl, rfl, rfl⟩ := h
 obtain ⟨h1, h2, h3, h4⟩ := hI.ok
 have hm : QV.bloom_Filter_Count.f (s0_0.length + 1) s0_0 s0_1 = some (((bits s0_0).length : Int), s0_1) := by
  unfold QV.bloom_Filter_Count.f
  rw [bits_ok s0_0 s0_1 h2 (Nat.le_refl _)]
  rw [Option.bind_some]
  simp
 refine (QV.bloom_Filter_Count.calls (s0_0.length + 1) g s0_0 s0_1 _ _ (cut w g) w hI.lend.1 hI.lend.2 hm).mono ?_
 rintro e w' ⟨rfl, hi, hb, hk⟩
 obtain ⟨hi2, hb2⟩ := hI.back hB hi hb hk
 exact ⟨rfl, hi2, hb2, hk⟩
end Go.Proofs.Ytefalfheeofhhaa.QW
