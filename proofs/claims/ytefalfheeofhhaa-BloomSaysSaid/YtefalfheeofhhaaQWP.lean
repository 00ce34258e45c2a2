/- What a filter's set is after a key is told: plain facts about lists. -/
import Derived.Test.YtefalfheeofhhaaQWA
namespace Go.Proofs.Ytefalfheeofhhaa.QW
open Go.RowKit Go.Proofs.YtefalfheeofhhaaW.PrintWords Go.Proofs.YtefalfheeofhhaaW.PrintLast Go.Proofs.YtefalfheeofhhaaW.PrintMore
open BloomFacts (places place)
theorem getD_set (l : List Bool) (p i : Nat) (hp : p < l.length) : (l.set p true).getD i false = (decide (i = p) || l.getD i false) := by
 rw [List.getD_eq_getElem?_getD, List.getD_eq_getElem?_getD, List.getElem?_set]
 by_cases h : p = i
 · subst h; simp [hp]
 · rw [if_neg h]
   have : ¬ i = p := fun e => h e.symm
   simp [this]
theorem getD_addS (ps : List Nat) : ∀ (l : List Bool), (∀ p ∈ ps, p < l.length) → ∀ i, (addS l ps).getD i false = (decide (i ∈ ps) || l.getD i false) := by
 induction ps with
 | nil => intro l _ i; simp [addS]
 | cons p ps ih =>
  intro l hp i
  have h1 := ih (l.set p true) (fun q hq => by rw [List.length_set]; exact hp q (List.mem_cons_of_mem _ hq)) i
  show (addS (l.set p true) ps).getD i false = _
  rw [h1, getD_set l p i (hp p List.mem_cons_self)]
  by_cases h2 : i = p <;> by_cases h3 : i ∈ ps <;> simp [h2, h3]
theorem getD_replicate (n i : Nat) : (List.replicate n false).getD i false = false := by
 rw [List.getD_eq_getElem?_getD, List.getElem?_replicate]
 by_cases h : i < n <;> simp [h]
theorem bits_replicate (n : Nat) : bits (List.replicate n false) = [] := by
 unfold bits
 rw [List.filter_eq_nil_iff]
 intro i _
 rw [getD_replicate]
 simp
theorem mem_bits (l : List Bool) (i : Nat) : i ∈ bits l ↔ l.getD i false = true := by
 unfold bits
 rw [List.mem_filter, List.mem_range]
 constructor
 · exact fun h => h.2
 · intro h
   refine ⟨?_, h⟩
   rcases Nat.lt_or_ge i l.length with h1 | h1
   · exact h1
   · rw [List.getD_eq_getElem?_getD, List.getElem?_eq_none h1] at h
     simp at h
/-! ### How many bits -/
theorem bits_cons_aux (l : List Bool) (b : Bool) : (bits (b :: l)).length = (bits l).length + (if b then 1 else 0) := by
 unfold bits
 rw [List.length_cons, List.range_succ_eq_map, List.filter_cons]
 have h : (List.filter (fun i => (b :: l).getD i false) (List.map Nat.succ (List.range l.length))).length = (List.filter (fun i => l.getD i false) (List.range l.length)).length := by
  rw [List.filter_map, List.length_map]
  rfl
 cases b
 · simpa using h
 · simpa using h
theorem bits_length : ∀ (l : List Bool), (bits l).length = l.count true
 | [] => rfl
 | b :: l => by
  rw [bits_cons_aux, bits_length l, List.count_cons]
  cases b <;> rfl
theorem count_set : ∀ (l : List Bool) (p : Nat), p < l.length → (l.set p true).count true = l.count true + (if l.getD p false then 0 else 1)
 | [], p, h => absurd h (Nat.not_lt_zero _)
 | b :: l, 0, _ => by cases b <;> simp
 | b :: l, p + 1, h => by
  have := count_set l p (by simpa using h)
  rw [List.set_cons_succ, List.count_cons, List.count_cons, this, List.getD_cons_succ]
  omega
theorem set_same (l : List Bool) (p : Nat) (h : l.getD p false = true) : l.set p true = l := by
 apply List.ext_getElem?
 intro i
 rw [List.getElem?_set]
 by_cases hi : p = i
 · subst hi
   rw [List.getD_eq_getElem?_getD] at h
   cases hc : l[p]? with
   | none => rw [hc] at h; simp at h
   | some b =>
    rw [hc] at h
    have hlt : p < l.length := (List.getElem?_eq_some_iff.1 hc).1
    simp at h
    simp [hlt, h]
 · rw [if_neg hi]
theorem cnt_le (ps : List Nat) : ∀ (l : List Bool), (∀ p ∈ ps, p < l.length) → l.count true ≤ (addS l ps).count true ∧ (addS l ps).count true ≤ l.count true + ps.length := by
 induction ps with
 | nil => intro l _; exact ⟨Nat.le_refl _, Nat.le_refl _⟩
 | cons p ps ih =>
  intro l hp
  have h1 := ih (l.set p true) (fun q hq => by rw [List.length_set]; exact hp q (List.mem_cons_of_mem _ hq))
  have h2 := count_set l p (hp p List.mem_cons_self)
  have h3 : addS l (p :: ps) = addS (l.set p true) ps := rfl
  rw [h3, List.length_cons]
  split at h2 <;> omega
theorem cnt_same (ps : List Nat) : ∀ (l : List Bool), ps.all (fun p => l.getD p false) = true → addS l ps = l := by
 induction ps with
 | nil => intro l _; rfl
 | cons p ps ih =>
  intro l hp
  rw [List.all_cons, Bool.and_eq_true] at hp
  show addS (l.set p true) ps = l
  rw [set_same l p hp.1]
  exact ih l hp.2
theorem cnt_more (ps : List Nat) : ∀ (l : List Bool), (∀ p ∈ ps, p < l.length) → ps.all (fun p => l.getD p false) = false → l.count true < (addS l ps).count true := by
 induction ps with
 | nil => intro l _ h; simp at h
 | cons p ps ih =>
  intro l hp h
  have hp2 : ∀ q ∈ ps, q < l.length := fun q hq => hp q (List.mem_cons_of_mem _ hq)
  show l.count true < (addS (l.set p true) ps).count true
  rw [List.all_cons] at h
  by_cases h1 : l.getD p false = true
  · rw [set_same l p h1]
    rw [h1, Bool.true_and] at h
    exact ih l hp2 h
  · have h2 := count_set l p (hp p List.mem_cons_self)
    rw [if_neg h1] at h2
    have h3 := (cnt_le ps (l.set p true) (fun q hq => by rw [List.length_set]; exact hp2 q hq)).1
    omega
/-! ### A key's places in a filter -/
theorem pls_eq (s : ByteArray) (f0 : List Bool) (f1 : Int) {n : Nat} (h : f0.length = n) : pls s f0 f1 = places s n f1.toNat := by subst h; rfl
theorem pls_ne (s : ByteArray) (f0 : List Bool) (f1 : Int) (h : 1 ≤ f1) : pls s f0 f1 ≠ [] := by
 intro e
 have := congrArg List.length e
 rw [pls_length] at this
 simp at this
 omega
theorem new_none (s : ByteArray) (n : Nat) (f1 : Int) (h : 1 ≤ f1) : (pls s (List.replicate n false) f1).all (fun p => (List.replicate n false).getD p false) = false := by
 have hne := pls_ne s (List.replicate n false) f1 h
 cases hp : pls s (List.replicate n false) f1 with
 | nil => exact absurd hp hne
 | cons p ps => rw [List.all_cons, getD_replicate, Bool.false_and]
theorem told (s : ByteArray) (f0 : List Bool) (f1 : Int) (h : 0 < f0.length) : (pls s f0 f1).all (fun p => (addS f0 (pls s f0 f1)).getD p false) = true := by
 rw [List.all_eq_true]
 intro p hp
 rw [getD_addS _ _ (pls_lt s f0 f1 h)]
 simp [hp]
/-! ### awake -/
theorem awake_ok (k : Nat) : cellaretlaw7_awake.f (k + 1) = some true := by
 obtain ⟨n, hn⟩ : ∃ n : Nat, n = 64 := ⟨_, rfl⟩
 obtain ⟨key, hkey⟩ : ∃ key : ByteArray, key = ⟨#[97]⟩ := ⟨_, rfl⟩
 have hks : key.size < top := by rw [hkey]; decide
 have hnew : bloom_New.f 64 2 = some (List.replicate n false, 2) := by
  unfold bloom_New.f
  rw [if_pos (by omega), hn]
  rfl
 have hl : (List.replicate n false).length = n := List.length_replicate
 obtain ⟨st, hst⟩ : ∃ st, st = addS (List.replicate n false) (pls key (List.replicate n false) 2) := ⟨_, rfl⟩
 have hsl : st.length = n := by rw [hst, addS_length, hl]
 have hadd : bloom_Filter_Add.f (List.replicate n false) 2 key = some (st, 2) := by
  unfold bloom_Filter_Add.f
  rw [if_pos hks, ← hst]
 have hm0 : bloom_Filter_May.f (List.replicate n false) 2 key = some (false, List.replicate n false, 2) := by
  unfold bloom_Filter_May.f
  rw [if_pos hks, new_none key n 2 (by omega)]
 have hm1 : bloom_Filter_May.f st 2 key = some (true, st, 2) := by
  unfold bloom_Filter_May.f
  have := told key (List.replicate n false) 2 (by rw [hl]; omega)
  rw [← hst] at this
  rw [if_pos hks, show pls key st 2 = pls key (List.replicate n false) 2 from by rw [pls_eq key st 2 hsl, pls_eq key _ 2 hl], this]
 have hclr : bloom_Filter_Clear.f st 2 = some (List.replicate n false, 2) := by
  unfold bloom_Filter_Clear.f
  rw [hsl]
 have hb0 : (1 : Nat) ≤ (bits st).length := by
  have hne := pls_ne key (List.replicate n false) 2 (by omega)
  cases hp : pls key (List.replicate n false) 2 with
  | nil => exact absurd hp hne
  | cons p ps =>
   have : p ∈ bits st := by
    rw [mem_bits, hst, getD_addS _ _ (pls_lt key _ 2 (by rw [hl]; omega)), hp]
    simp
   exact List.length_pos_of_mem this
 have hrd : 0 ≤ rd ((bits st).map Int.ofNat) 0 := by
  have := rd_ofNat (bits st) 0 (by omega)
  rw [show ((0 : Nat) : Int) = 0 from rfl] at this
  rw [this]
  omega
 have hlen : (((bits st).map Int.ofNat).length : Int) = ((bits st).length : Int) := by rw [List.length_map]
 unfold cellaretlaw7_awake.f
 rw [← hkey]
 rw [hnew]
 rw [Option.bind_some]
 rw [if_pos rfl]
 show (bloom_Filter_May.f (List.replicate n false) 2 key).bind _ = _
 rw [hm0]
 rw [Option.bind_some]
 show cellaretlaw7_awake.j0 (k + 1) false (List.replicate n false) 2 = _
 simp only [cellaretlaw7_awake.j0]
 rw [if_neg (by decide), ← hkey, hadd]
 rw [Option.bind_some]
 show (bloom_Filter_Bits.f st 2).bind _ = _
 unfold bloom_Filter_Bits.f
 rw [Option.bind_some]
 show (bloom_Filter_May.f st 2 key).bind _ = _
 rw [hm1]
 rw [Option.bind_some]
 rw [if_pos rfl]
 show (bloom_Filter_Count.f st 2).bind _ = _
 unfold bloom_Filter_Count.f
 rw [Option.bind_some]
 show (if ((bits st).length : Int) = (((bits st).map Int.ofNat).length : Int) then _ else _) = _
 rw [if_pos hlen.symm, if_pos (show (((bits st).map Int.ofNat).length : Int) ≥ 1 by rw [hlen]; omega), if_pos (show (0 : Int) < (((bits st).map Int.ofNat).length : Int) by rw [hlen]; omega)]
 show (bloom_Filter_Clear.f st 2).bind _ = _
 rw [hclr]
 rw [Option.bind_some]
 rw [if_pos (show rd ((bits st).map Int.ofNat) 0 ≥ 0 from hrd)]
 show (bloom_Filter_May.f (List.replicate n false) 2 key).bind _ = _
 rw [hm0]
 rw [Option.bind_some]
 rw [if_neg (show ¬ (false = true) by decide)]
 rw [Option.bind_some]
 show some (((bits (List.replicate n false)).length : Int) == 0) = _
 rw [bits_replicate]
 rfl
end Go.Proofs.Ytefalfheeofhhaa.QW
