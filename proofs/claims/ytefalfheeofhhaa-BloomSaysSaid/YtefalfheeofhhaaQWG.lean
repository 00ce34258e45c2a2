/- A filter of one's own: Add, Clear and New, walked; no condition beyond what each statement names. -/
import Derived.Test.YtefalfheeofhhaaQWF
namespace Go.Proofs.Ytefalfheeofhhaa.QW
open Go.RowKit Go.Proofs.YtefalfheeofhhaaW.PrintWords Go.Proofs.YtefalfheeofhhaaW.PrintLast Go.Proofs.YtefalfheeofhhaaW.PrintMore
open Go.Proofs.Ytefalfheeofhhaa.QV (errW errW_none errW_some info3)
open BloomFacts (places place)
attribute [local go_sem] max2_int min2_int max_two min_two max_three min_three max_four min_four
set_option linter.unusedVariables false
set_option linter.unusedSimpArgs false
theorem info4 : (Try.prog.info? 4).map (fun i => (i.zero, i.size, i.bytes)) = some (some (.bool false), 1, 1) := by kernel_rfl
theorem keep_more {w w1 : World} {g b : Nat} (h : KeepBut w w1 g none) : KeepBut w w1 g (some b) := ⟨h.1, fun i hi hg hr => h.2 i hi hg (by simp)⟩
theorem keep_bit {w w1 : World} {g b : Nat} (h : KeepBut w w1 g (some b)) (j : Nat) (u : Value) : KeepBut w (w1.setCell ⟨b, j, none⟩ u) g (some b) :=
 ⟨by simpa [World.setCell] using h.1, fun i hi hg hr => (Below.heap_setCell w1 ⟨b, j, none⟩ u i (fun e => hr (by rw [e]))).trans (h.2 i hi hg hr)⟩
theorem IsS76.parts {w0 W : World} {g b : Nat} {f0 : List Bool} {f1 : Int} (h : IsS76 w0 W g f0 f1) (hbg : b + 1 = g) : ∃ c0, W.cell? ⟨g, 0, none⟩ = some (.slice (some ⟨b, 0, none⟩) f0.length c0) ∧ W.cell? ⟨g, 1, none⟩ = some (.int .i64 f1) ∧ W.heap[b]? = some (.cells (bools f0).toArray 4 (0, 0)) := by
 obtain ⟨b', c0, hb, hr, hg, he, ho⟩ := h
 obtain rfl : b' = b := by omega
 exact ⟨c0, (blk_cell hb 0).trans rfl, (blk_cell hb 1).trans rfl, hr⟩
theorem row_cell {W : World} {b : Nat} {f0 : List Bool} (hr : W.heap[b]? = some (.cells (bools f0).toArray 4 (0, 0))) (i : Int) (h0 : 0 ≤ i) (h1 : i < (f0.length : Int)) : W.cell? ⟨b, i.toNat, none⟩ = some (.bool (rdOf false f0 i)) := by
 have hl : i.toNat < f0.length := by omega
 rw [blk_cell hr, List.getElem?_toArray, bools_get, List.getElem?_eq_getElem hl]
 simp [rdOf, List.getD_eq_getElem?_getD, hl]

/-! ### Add: function 32 -/
def bloom_Filter_Add.f (s0_0 : List Bool) (s0_1 : Int) (a1 : ByteArray) : Option (List Bool × Int) := if a1.size < top then some (addS s0_0 (pls a1 s0_0 s0_1), s0_1) else none
set_option maxHeartbeats 8000000 in
set_option maxRecDepth 100000 in
theorem bloom_Filter_Add.calls (g : Nat) (s0_0 : List Bool) (s0_1 : Int) (a1 : ByteArray) (r1 : List Bool) (r2 : Int) (w0 w : World) (hI : IsS76 w0 w g s0_0 s0_1) (hB : Below w0.heap.size w0 w) (h : bloom_Filter_Add.f s0_0 s0_1 a1 = some (r1, r2)) :
  Calls Try.prog 32 #[.pointer (some ⟨g, 0, none⟩), .string a1] w fun e w' => e = .returned (.tuple #[]) ∧ IsS76 w0 w' g r1 r2 ∧ Below w0.heap.size w0 w' ∧ KeepBut w w' g (some (g - 1)) := by
 unfold bloom_Filter_Add.f at h
 split at h
 rotate_left
 · exact absurd h (by simp)
 rename_i hs
 simp only [Option.some.injEq, Prod.mk.injEq] at h
 obtain ⟨hr1, rfl⟩ := h
 have hlen : ∀ p ∈ pls a1 s0_0 s0_1, p < s0_0.length := pls_lt a1 s0_0 s0_1 (by have := hI.ok.1; omega)
 obtain ⟨b, hbg⟩ : ∃ b, b + 1 = g := by obtain ⟨b, _, _, _, _, he, _⟩ := hI; exact ⟨b, he⟩
 have hb1 : g - 1 = b := by omega
 rw [hb1]
 have Hge : Aside0 (w0.heap.size ≤ b) := Aside0.mk (by obtain ⟨b', _, _, _, h1, h2, _⟩ := hI; omega)
 have Hb : Aside0 (b + 1 = g) := Aside0.mk hbg
 clear hb1 hbg
 have HI0 := Aside0.mk hI
 have HK := Aside0.mk (KeepBut.refl w g (some b))
 clear hI
 have HB := Aside0.mk hB
 clear hB
 have HS := Aside0.mk hs
 clear hs
 obtain ⟨ps, hps⟩ : ∃ ps, ps = pls a1 s0_0 s0_1 := ⟨_, rfl⟩
 rw [← hps] at hr1 hlen
 have HP := Aside0.mk hps
 have HR := Aside0.mk hr1
 have HL := Aside0.mk hlen
 clear hps hr1 hlen
 obtain ⟨xs, hxs⟩ : ∃ xs, xs = ps.map Int.ofNat := ⟨_, rfl⟩
 have HX := Aside0.mk hxs
 clear hxs
 go_enter Try.func32, Try.ntmps32
 go_wp2_with (first | ((with_reducible refine gate_callee (f := 54) rfl ?_); refine goesL_ (some 8) rfl rfl Try.func54 (by kernel_rfl) rfl #[.pointer (some ⟨g, 0, none⟩), .string a1] rfl (by (try simp only [List.map_toArray, List.map_cons, List.map_nil]); first | done | rfl | (simp only [List.length_drop, List.length_take]; rfl) | (go_simp; done) | (go_simp; rfl)) ?_; (with_reducible refine (bloom_Filter_places.calls g s0_0 s0_1 a1 w0 _ ?side1 ?side2 HS.out).mono ?_); (case side1 => repeat (first | (with_reducible first | exact HI0.out | apply IsS76.alloc | apply IsS76.drewN | apply IsS76.drew) | exact HI0.out)); (case side2 => repeat (first | (with_reducible first | exact HB.out | apply below_alloc | apply pw_below_drewN | apply below_drew1) | exact HB.out)); rintro e w4 ⟨v123, rfl, ho0, hi, hb, hk⟩; refine ⟨_, rfl, ?_⟩; rw [← HP.out, ← HX.out] at ho0; have n0_ := Aside0.mk (Kd.R_lower ho0 (keep_size (w := w) (g := g) (row := some b) (by repeat (first | (with_reducible first | exact HK.out | apply keep_drewN) | exact HK.out)))); have n1_ := Aside0.mk (KeepBut.trans (row1 := some b) (by repeat (first | (with_reducible first | exact HK.out | apply keep_drewN) | exact HK.out)) (keep_more hk) (.inl rfl)); have n2_ := Aside0.mk (hb); have n3_ := Aside0.mk (hi); clear HK; clear HB; clear HI0; have HO124 := n0_; have HK := n1_; have HB := n2_; have HI0 := n3_; clear n0_ n1_ n2_ n3_; (try clear hb); (try clear hk); (try clear hi); (try clear ho0); obtain ⟨Ao5, co5, eo5⟩ := Kd.R_slice HO124.out; subst eo5))
 go_loopg [10] ps.length (fun kq v10 w' => ∃ (x : Int) (m : Nat) (y : List Bool), v10 = .int .i64 x ∧ Aside0 (x = (m : Int)) ∧ Aside0 (m + kq = ps.length) ∧ Aside0 (addS y (ps.drop m) = r1) ∧ Aside0 (y.length = s0_0.length) ∧ Aside0 (Kd.R (Kd.int .i64) 3 w' w.heap.size (fun _ => True) (.slice Ao5 xs.length co5) xs) ∧ Aside0 (IsS76 w0 w' g y s0_1) ∧ Aside0 (KeepBut w w' g (some b)) ∧ Aside0 (Below w0.heap.size w0 w'))
 case atStart => exact ⟨0, 0, s0_0, rfl, ⟨rfl⟩, ⟨by omega⟩, ⟨HR.out⟩, ⟨rfl⟩, ⟨by (with_reducible repeat (first | apply Kd.R_alloc | apply Kd.R_drewN | apply Kd.R_drew)); exact HO124.out⟩, ⟨by repeat (first | (with_reducible first | exact HI0.out | apply IsS76.alloc | apply IsS76.drewN | apply IsS76.drew) | exact HI0.out)⟩, ⟨by repeat (first | (with_reducible first | exact HK.out | apply keep_drewN) | exact HK.out)⟩, ⟨by repeat (first | (with_reducible first | exact HB.out | apply below_alloc | apply pw_below_drewN | apply below_drew1) | exact HB.out)⟩⟩
 case round =>
  clear HR
  obtain ⟨x, m, y, rfl, HM, HA, HR, HY, HO_9, HI0, HK, HB⟩ := hrel
  by_cases c6 : x < (xs.length : Int)
  · cases gk with
    | zero => exact absurd HA.out (by rw [HX.out, HM.out] at c6; simp at c6; omega)
    | succ k1 =>
     have hm2 : m < ps.length := by rw [HX.out, HM.out] at c6; simpa using c6
     have hrd : rd xs x = (ps[m] : Int) := by rw [HX.out, HM.out]; exact rd_ofNat ps m hm2
     have hp0 := HL.out _ (List.getElem_mem hm2)
     have c6b0 : decide (x < (xs.length : Int)) = true := decide_eq_true c6
     have p126 : 0 ≤ x := by rw [HM.out]; omega
     have q126 := c6
     obtain ⟨ad126, e126, hx126_0⟩ := Kd.at_int (Kd.R_reads' HO_9.out).2.2 x p126 q126
     cases e126
     obtain ⟨c0, hcz0, hcz1, hrow⟩ := HI0.out.parts Hb.out
     have p127 : 0 ≤ rd xs x := by rw [hrd]; omega
     have q127 : rd xs x < (y.length : Int) := by rw [hrd, HY.out]; omega
     have hx127 := row_cell hrow _ p127 q127
     have hf127 := blk_frozen hrow (rd xs x).toNat
     have HR2 : Aside0 (addS (y.set (rd xs x).toNat true) (ps.drop (m + 1)) = r1) := ⟨by rw [← HR.out, List.drop_eq_getElem_cons hm2, hrd]; rfl⟩
     have HRow := Aside0.mk hrow
     have HW := Aside0.mk (show wrap64 (x + 1) = ((m + 1 : Nat) : Int) from by
      rw [HM.out]
      exact BloomFacts.wrap_succ m (by have h1 := pls_length a1 s0_0 s0_1; have h2 := HI0.out.ok.2.2.2; rw [← HP.out] at h1; omega))
     clear hrow hrd hp0 hm2
     clear c6
     replace p126 := eq_true p126
     replace q126 := eq_true q126
     replace p127 := eq_true p127
     replace q127 := eq_true q127
     go_wp2
     go_roundg k1
     case measure => omega
     case rel => exact ⟨wrap64 (x + 1), m + 1, y.set (rd xs x).toNat true, (by first | rfl | (simp; done) | (simp [*]; done)), HW, ⟨by have := HA.out; omega⟩, HR2, ⟨by rw [List.length_set]; exact HY.out⟩, ⟨Kd.R_set HO_9.out HRow.out (by decide) _ _⟩, ⟨HI0.out.bit Hb.out _ _⟩, ⟨keep_bit HK.out _ _⟩, ⟨below_set HB.out Hge.out⟩⟩
  · have c6b0 : decide (x < (xs.length : Int)) = false := decide_eq_false c6
    have hm2 : ps.length ≤ m := by rw [HX.out, HM.out] at c6; simp at c6; omega
    have hr1 := HR.out
    rw [List.drop_of_length_le hm2] at hr1
    have hr1' : y = r1 := hr1
    subst hr1'
    clear hr1 c6 hm2
    go_wp2
    first | go_end0 | ((try simp only [Exit.inBlock, Exit.then]); refine bodyPost_ret (results_none rfl _ _ _) rfl ?_)
    exact ⟨rfl, HI0.out, HB.out, HK.out⟩

/-! ### Clear: function 37 -/
theorem setCells_far (b : Nat) : ∀ (vs : List Value) (o : Nat) (W : World) (k : Nat), k ≠ b → (W.setCells b o vs).heap[k]? = W.heap[k]?
 | [], _, _, _, _ => rfl
 | v :: r, o, W, k, hk => by
  rw [World.setCells, setCells_far b r (o + 1) _ k hk]
  exact Below.heap_setCell W ⟨b, o, none⟩ v k hk
theorem setCells_rest (b : Nat) : ∀ (vs : List Value) (o : Nat) (W : World), (W.setCells b o vs).heap.size = W.heap.size ∧ (W.setCells b o vs).os = W.os ∧ (W.setCells b o vs).tape = W.tape ∧ (W.setCells b o vs).output = W.output
 | [], _, _ => ⟨rfl, rfl, rfl, rfl⟩
 | v :: r, o, W => by
  obtain ⟨h1, h2, h3, h4⟩ := setCells_rest b r (o + 1) (W.setCell ⟨b, o, none⟩ v)
  exact ⟨h1.trans (by simp [World.setCell]), h2, h3, h4⟩
theorem setCells_row (b t : Nat) : ∀ (vs : List Value) (o : Nat) (W : World) (cs : Array Value), W.heap[b]? = some (.cells cs t (0, 0)) → o + vs.length ≤ cs.size → ∃ cs', (W.setCells b o vs).heap[b]? = some (.cells cs' t (0, 0)) ∧ cs'.size = cs.size ∧ ∀ j, cs'[j]? = if o ≤ j ∧ j < o + vs.length then vs[j - o]? else cs[j]?
 | [], o, W, cs, h, _ => ⟨cs, h, rfl, fun j => by rw [if_neg (by simp)]⟩
 | v :: r, o, W, cs, h, hl => by
  simp only [List.length_cons] at hl
  obtain ⟨cs', h1, h2, h3⟩ := setCells_row b t r (o + 1) (W.setCell ⟨b, o, none⟩ v) _ (blk_set h o v) (by rw [Array.size_setIfInBounds]; omega)
  refine ⟨cs', h1, by simpa using h2, fun j => ?_⟩
  rw [h3 j]
  simp only [List.length_cons]
  by_cases hj : j = o
  · subst hj
    rw [if_neg (by omega), if_pos (by omega), Array.getElem?_setIfInBounds, if_pos rfl, if_pos (by omega), Nat.sub_self]
    rfl
  · by_cases hj2 : o + 1 ≤ j ∧ j < o + 1 + r.length
    · rw [if_pos hj2, if_pos (by omega)]
      obtain ⟨q, rfl⟩ : ∃ q, j = o + 1 + q := ⟨j - (o + 1), by omega⟩
      rw [show o + 1 + q - (o + 1) = q by omega, show o + 1 + q - o = q + 1 by omega]
      rfl
    · rw [if_neg hj2, if_neg (by omega), Array.getElem?_setIfInBounds, if_neg (fun e => hj e.symm)]
theorem clear_row {W : World} {b n : Nat} {f0 : List Bool} (hr : W.heap[b]? = some (.cells (bools f0).toArray 4 (0, 0))) (hn : f0.length = n) : (W.setCells b 0 (List.replicate n (.bool false))).heap[b]? = some (.cells (bools (List.replicate n false)).toArray 4 (0, 0)) := by
 obtain ⟨cs', h1, h2, h3⟩ := setCells_row b 4 (List.replicate n (.bool false)) 0 W _ hr (by simp [bools]; omega)
 rw [h1]
 congr 2
 apply Array.ext_getElem?
 intro j
 rw [h3 j]
 by_cases hj : j < n
 · rw [if_pos (by simp; omega)]
   simp [bools, List.getElem?_replicate, Array.getElem?_replicate]
 · rw [if_neg (by simp; omega)]
   simp [bools]
   rw [List.getElem?_eq_none (by omega), Array.getElem?_eq_none (by simp; omega)]
   rfl
theorem IsS76.cleared {w0 W : World} {g b : Nat} {f0 : List Bool} {f1 : Int} (h : IsS76 w0 W g f0 f1) (hbg : b + 1 = g) : IsS76 w0 (W.setCells b 0 (List.replicate f0.length (.bool false))) g (List.replicate f0.length false) f1 := by
 obtain ⟨b', c0, hb, hr, hg, he, ho⟩ := h
 obtain rfl : b' = b := by omega
 refine ⟨b', c0, ?_, clear_row hr rfl, hg, he, ?_⟩
 · rw [List.length_replicate, setCells_far _ _ _ _ _ (by omega)]
   exact hb
 · unfold Fok at ho ⊢
   rw [List.length_replicate]
   exact ho
theorem below_cells {w W : World} {b o : Nat} {vs : List Value} {B : Nat} (h : Below B w W) (hb : B ≤ b) : Below B w (W.setCells b o vs) := by
 obtain ⟨h1, h2, h3, h4⟩ := setCells_rest b vs o W
 exact ⟨h2.trans h.os, h3.trans h.tape, h4.trans h.output, by rw [h1]; exact h.size, fun k hk => (setCells_far b vs o W k (by omega)).trans (h.block k hk)⟩
theorem keep_cells {w w1 : World} {g b o : Nat} {vs : List Value} (h : KeepBut w w1 g (some b)) : KeepBut w (w1.setCells b o vs) g (some b) :=
 ⟨by rw [(setCells_rest b vs o w1).1]; exact h.1, fun i hi hg hr => (setCells_far b vs o w1 i (fun e => hr (by rw [e]))).trans (h.2 i hi hg hr)⟩
def bloom_Filter_Clear.f (s0_0 : List Bool) (s0_1 : Int) : Option (List Bool × Int) := some (List.replicate s0_0.length false, s0_1)
theorem run_clear {W : World} {b : Nat} {f0 : List Bool} (hr : W.heap[b]? = some (.cells (bools f0).toArray 4 (0, 0))) (hn : 0 < f0.length) (c : Nat) : (Builtin.clear_ #[42] 0 #[.slice (some ⟨b, 0, none⟩) f0.length c]).run Try.prog W = .ok (.tuple #[]) (W.setCells b 0 (List.replicate f0.length (.bool false))) := by
 obtain ⟨i, hi, hz, hs, hb⟩ := info_parts info4
 refine Go.Lib.run_clear_slice W 42 4 0 (.bool false) Try.underlying42 (fun w => by simp [zeroValue, typeInfo, hi, hz]) rfl rfl b 0 f0.length c hn (fun j hj => ?_) (fun j hj => blk_frozen hr _)
 rw [blk_cell hr]
 simp [bools]
 omega
set_option maxHeartbeats 8000000 in
set_option maxRecDepth 100000 in
theorem bloom_Filter_Clear.calls (g : Nat) (s0_0 : List Bool) (s0_1 : Int) (r1 : List Bool) (r2 : Int) (w0 w : World) (hI : IsS76 w0 w g s0_0 s0_1) (hB : Below w0.heap.size w0 w) (h : bloom_Filter_Clear.f s0_0 s0_1 = some (r1, r2)) :
  Calls Try.prog 37 #[.pointer (some ⟨g, 0, none⟩)] w fun e w' => e = .returned (.tuple #[]) ∧ IsS76 w0 w' g r1 r2 ∧ Below w0.heap.size w0 w' ∧ KeepBut w w' g (some (g - 1)) := by
 unfold bloom_Filter_Clear.f at h
 simp only [Option.some.injEq, Prod.mk.injEq] at h
 obtain ⟨rfl, rfl⟩ := h
 obtain ⟨b, hbg⟩ : ∃ b, b + 1 = g := by obtain ⟨b, _, _, _, _, he, _⟩ := hI; exact ⟨b, he⟩
 have hb1 : g - 1 = b := by omega
 rw [hb1]
 have Hge : Aside0 (w0.heap.size ≤ b) := Aside0.mk (by obtain ⟨b', _, _, _, h1, h2, _⟩ := hI; omega)
 have Hb : Aside0 (b + 1 = g) := Aside0.mk hbg
 clear hb1 hbg
 have HI0 := Aside0.mk hI
 have HK := Aside0.mk (KeepBut.refl w g (some b))
 clear hI
 have HB := Aside0.mk hB
 clear hB
 obtain ⟨c0, hcz0, hcz1, hrow⟩ := HI0.out.parts Hb.out
 have hclr := run_clear hrow (by have := HI0.out.ok.1; omega) c0
 clear hrow
 go_enter Try.func37, Try.ntmps37
 go_wp2
 first | go_end0 | ((try simp only [Exit.inBlock, Exit.then]); refine bodyPost_ret (results_none rfl _ _ _) rfl ?_)
 exact ⟨rfl, HI0.out.cleared Hb.out, below_cells HB.out Hge.out, keep_cells HK.out⟩

/-! ### New: function 31 -/
theorem make_event {ops : Array Oper} {rest : List Oper} {o : Oper} {a : Act} {Q : Exit → Act → World → Prop} {W : World} (hgd : o.guard = none) {l c : Operand} (hop : o.op = Op.makeSlice 42 l c) (n : Int) (h0 : 0 ≤ n) (hn : n ≤ 65536)
  (hl : a.eval l = .int .i64 n) (hc : a.eval c = .int .i64 n)
  (h : ∀ b, b = W.heap.size → ∀ w1, w1.heap[b]? = some (.cells (bools (List.replicate n.toNat false)).toArray 4 (0, 0)) → Below W.heap.size W w1 → w1.heap.size = b + 1 → wpList Try.prog ops Q rest (a.put o.dst (.slice (some ⟨b, 0, none⟩) n.toNat n.toNat)) w1) : wpList Try.prog ops Q (o :: rest) a W := by
 obtain ⟨i, hi, hz, hs, hb⟩ := info_parts info4
 have hr := run_make (P := Try.prog) W 42 4 i (.bool false) Try.underlying42 hi hz .i64 .i64 n n h0 (Int.le_refl _) (by rw [hb]; omega) (by omega)
 refine Kd.event_run hgd (w1 := W.alloc (.cells (madeCells (Value.bool false).cells (n.toNat * i.size)) 4)) ?_ (h _ rfl _ ?_ (below_alloc (Below.refl _ _) _) (by simp only [World.alloc, Array.size_push]))
 · simp [execOp, hop, hl, hc, hr, Result.andThen]
 · rw [heap_alloc_new, hs, Nat.mul_one]
   congr 2
   apply Array.toList_inj.1
   rw [show (Value.bool false).cells = #[Value.bool false] from rfl, toList_madeCells_one]
   simp [bools]
def bloom_New.f (a0 : Int) (a1 : Int) : Option (List Bool × Int) := if 8 ≤ a0 ∧ a0 ≤ 65536 ∧ 1 ≤ a1 ∧ a1 ≤ 8 then some (List.replicate a0.toNat false, a1) else none
set_option maxHeartbeats 8000000 in
set_option maxRecDepth 100000 in
theorem bloom_New.calls (a0 : Int) (a1 : Int) (r1 : List Bool) (r2 : Int) (w0 w : World) (hB : Below w0.heap.size w0 w) (h : bloom_New.f a0 a1 = some (r1, r2)) :
  Calls Try.prog 31 #[.int .i64 a0, .int .i64 a1] w fun e w' => ∃ g_ : Nat, e = .returned (.tuple #[.pointer (some ⟨g_, 0, none⟩), .int .i64 0]) ∧ IsS76 w0 w' g_ r1 r2 ∧ Below w0.heap.size w0 w' ∧ Below w.heap.size w w' := by
 unfold bloom_New.f at h
 split at h
 rotate_left
 · exact absurd h (by simp)
 rename_i hs
 simp only [Option.some.injEq, Prod.mk.injEq] at h
 obtain ⟨rfl, rfl⟩ := h
 obtain ⟨h1, h2, h3, h4⟩ := hs
 have hu76 := Try.underlying76
 have HBW := Aside0.mk (Below.refl w.heap.size w)
 have HW0 := Aside0.mk hB.size
 have HB := Aside0.mk hB
 clear hB
 have c1 : decide (a0 < 8) = false := decide_eq_false (by omega)
 have c2 : decide (65536 < a0) = false := decide_eq_false (by omega)
 have c3 : decide (a1 < 1) = false := decide_eq_false (by omega)
 have c4 : decide (8 < a1) = false := decide_eq_false (by omega)
 have A1 := Aside0.mk h1
 have A2 := Aside0.mk h2
 have A3 := Aside0.mk h3
 have A4 := Aside0.mk h4
 clear h1 h2 h3 h4
 go_enter Try.func31, Try.ntmps31
 go_wp2_with (first | ((with_reducible refine gate_dst (N := 21) rfl ?_); refine make_event rfl rfl a0 (by have := A1.out; omega) A2.out rfl rfl ?_; intro b hbs wm hrow hbm hsz; have n0_ := Aside0.mk (below_step HBW.out hbm); have n1_ := Aside0.mk (below_step HB.out hbm); have n2_ := Aside0.mk hrow; have n3_ := Aside0.mk hsz; have n4_ := Aside0.mk ((by rw [hbs]; exact below_size HBW.out) : w.heap.size ≤ b); clear HB HBW; have HBW := n0_; have HB := n1_; have HRow := n2_; have HSz := n3_; have HGe := n4_; clear n0_ n1_ n2_ n3_ n4_; clear hbs hrow hbm hsz) | ((with_reducible refine gate_dst (N := 24) rfl ?_); refine box_event ?hg (N := 24) ?hd (cs := #[.slice (some ⟨b, 0, none⟩) a0.toNat a0.toNat, .int .i64 a1]) (t := 76) ?hr ?_; (case hd => rfl); (case hg => rfl); (case hr => first | (go_simp; done) | (go_simp; rfl)); intro gb101 hg w3 hbox hb; have n0_ := Aside0.mk (below_step HBW.out hb); have n1_ := Aside0.mk (below_step HB.out hb); have n2_ := Aside0.mk hbox; have n3_ := Aside0.mk (blk_below HRow.out hb); have n4_ := Aside0.mk (show b + 1 = gb101 from by rw [hg]; exact HSz.out.symm); clear HBW HB HRow HSz; have HBW := n0_; have HB := n1_; have BK := n2_; have HRow := n3_; have HG := n4_; clear n0_ n1_ n2_ n3_ n4_; clear hb hbox hg))
 go_ret2
 refine ⟨gb101, rfl, ⟨b, a0.toNat, ?_, HRow.out, Nat.le_trans HW0.out HGe.out, HG.out, ?_⟩, HB.out, HBW.out⟩
 · rw [List.length_replicate]
   exact BK.out
 · have := A1.out; have := A2.out; have := A3.out; have := A4.out
   unfold Fok
   rw [List.length_replicate]
   omega
set_option maxHeartbeats 8000000 in
set_option maxRecDepth 100000 in
theorem bloom_New.bad (a0 : Int) (a1 : Int) (w : World) (h : ¬ (8 ≤ a0 ∧ a0 ≤ 65536 ∧ 1 ≤ a1 ∧ a1 ≤ 8)) :
  Calls Try.prog 31 #[.int .i64 a0, .int .i64 a1] w fun e w' => e = .returned (.tuple #[.pointer none, .int .i64 1]) ∧ Below w.heap.size w w' := by
 have HBW := Aside0.mk (Below.refl w.heap.size w)
 by_cases h1 : a0 < 8
 · have c1 : decide (a0 < 8) = true := decide_eq_true h1
   clear h h1
   go_enter Try.func31, Try.ntmps31
   go_wp2
   go_ret2
   exact ⟨rfl, HBW.out⟩
 have c1 : decide (a0 < 8) = false := decide_eq_false h1
 by_cases h2 : 65536 < a0
 · have c2 : decide (65536 < a0) = true := decide_eq_true h2
   clear h h1 h2
   go_enter Try.func31, Try.ntmps31
   go_wp2
   go_ret2
   exact ⟨rfl, HBW.out⟩
 have c2 : decide (65536 < a0) = false := decide_eq_false h2
 by_cases h3 : a1 < 1
 · have c3 : decide (a1 < 1) = true := decide_eq_true h3
   clear h h1 h2 h3
   go_enter Try.func31, Try.ntmps31
   go_wp2
   go_ret2
   exact ⟨rfl, HBW.out⟩
 have c3 : decide (a1 < 1) = false := decide_eq_false h3
 have c4 : decide (8 < a1) = true := decide_eq_true (by omega)
 clear h h1 h2 h3
 go_enter Try.func31, Try.ntmps31
 go_wp2
 go_ret2
 exact ⟨rfl, HBW.out⟩
end Go.Proofs.Ytefalfheeofhhaa.QW
