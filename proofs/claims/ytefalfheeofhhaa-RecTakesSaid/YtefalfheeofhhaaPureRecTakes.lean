/- The law RecTakes on numbers and lists: any bytes are a record, or none, as the document says; as a list too. -/
import Derived.Test.YtefalfheeofhhaaQRx27
import Derived.Test.YtefalfheeofhhaaQRRef
import Derived.Test.YtefalfheeofhhaaQRAwake
namespace Go.Proofs.Ytefalfheeofhhaa.Pure
open Go.RowKit Go.Proofs.Ytefalfheeofhhaa.QR Go.Proofs.YtefalfheeofhhaaW.PrintWords Go.Proofs.YtefalfheeofhhaaW.PrintLast Go.Proofs.YtefalfheeofhhaaW.PrintMore
open RecFacts
namespace RecTakesParts
/-- What Take answers: none, no form, or an item and how many bytes it has. -/
theorem takeN_cases (l : List Nat) : takeN l = noneR ∨ takeN l = formR ∨ (∃ a b f e v, ∃ n : Nat, takeN l = (a, b, f, e, v, (n : Int), 0) ∧ 1 ≤ n ∧ n ≤ l.length) := by
  unfold takeN
  split
  · exact .inl rfl
  · rename_i h0
    split
    · rename_i h1
      refine .inr (.inr ⟨_, _, _, _, _, eOf l, rfl, by unfold eOf; omega, ?_⟩)
      unfold headOk restOk at h1
      simp only [Bool.and_eq_true, decide_eq_true_eq] at h1
      exact h1.2.1.1
    · exact .inr (.inl rfl)
def progR : Option (List S54) → List S54 × Int
  | some xs => (xs, 0)
  | none => ([], 3)
def refR : Option (List S54) → List S54 × Bool
  | some xs => (xs, true)
  | none => ([], false)
theorem lists (n : Nat) : ∀ (l : List Int) (acc : List S54), l.length ≤ n → n ≤ 5000 → Wf l → acc.length + l.length ≤ 5000 → ∃ r : Option (List S54), (∀ xs, r = some xs → xs.length ≤ acc.length + l.length) ∧ ∀ k, 10 * l.length + l.length + 20 ≤ k →
    rec_List.l0 k l acc = some (progR r) ∧ cellaretref4_List.l0 k (bytesN (ns l)) acc = some (refR r) := by
  induction n with
  | zero =>
    intro l acc hl _ hw ha
    obtain rfl : l = [] := List.eq_nil_of_length_eq_zero (by omega)
    refine ⟨some acc, fun xs hx => by cases hx; omega, fun k hk => ?_⟩
    obtain ⟨k, rfl⟩ : ∃ q, k = q + 1 := ⟨k - 1, by omega⟩
    simp only [rec_List.l0, cellaretref4_List.l0]
    have hb := bs_bytesN (l := ns []) (by simp)
    have hs : (bytesN (ns [])).size = 0 := by rw [← bs_length, hb]; rfl
    rw [prog_take hw (by simp) (by simp; omega), ref_take (by omega) (by omega), hb]
    exact ⟨rfl, rfl⟩
  | succ n ih =>
    intro l acc hl hn hw ha
    have hb := bs_bytesN (l := ns l) (ns_lt hw)
    have hs : (bytesN (ns l)).size = l.length := by rw [← bs_length, hb]; simp
    rcases takeN_cases (ns l) with ht | ht | ⟨a, b, f, e, v, m, ht, h1, h2⟩
    · refine ⟨some acc, fun xs hx => by cases hx; omega, fun k hk => ?_⟩
      obtain ⟨k, rfl⟩ : ∃ q, k = q + 1 := ⟨k - 1, by omega⟩
      simp only [rec_List.l0, cellaretref4_List.l0]
      rw [prog_take hw (by omega) (by omega), ref_take (by omega) (by omega), hb, ht]
      exact ⟨rfl, rfl⟩
    · refine ⟨none, fun xs hx => (by cases hx), fun k hk => ?_⟩
      obtain ⟨k, rfl⟩ : ∃ q, k = q + 1 := ⟨k - 1, by omega⟩
      simp only [rec_List.l0, cellaretref4_List.l0]
      rw [prog_take hw (by omega) (by omega), ref_take (by omega) (by omega), hb, ht]
      exact ⟨rfl, rfl⟩
    · have h2' : m ≤ l.length := by simpa using h2
      obtain ⟨r, hx, hr⟩ := ih (l.drop m) (acc ++ [⟨a, b, f, e, v⟩]) (by simp; omega) (by omega) (wf_drop hw m) (by simp; omega)
      refine ⟨r, fun xs hxs => by have := hx xs hxs; simp at this; omega, fun k hk => ?_⟩
      obtain ⟨k, rfl⟩ : ∃ q, k = q + 1 := ⟨k - 1, by omega⟩
      simp only [rec_List.l0, cellaretref4_List.l0]
      rw [prog_take hw (by omega) (by omega), ref_take (by omega) (by omega), hb, ht]
      simp only [Option.bind_some]
      rw [if_pos trivial, if_pos (by omega), if_pos (by omega), if_pos (by omega), if_neg (by decide), if_pos trivial, if_pos (by omega), if_pos (by omega), if_pos (by omega)]
      simp only [Int.toNat_natCast]
      have hd : (bytesN (ns l)).extract m (bytesN (ns l)).size = bytesN (ns (l.drop m)) := by
        apply bs_inj
        rw [bs_extract, hb, hs, bs_bytesN (ns_lt (wf_drop hw m)), List.take_of_length_le (by simp)]
        simp [ns, List.map_drop]
      rw [hd]
      exact hr k (by simp only [List.length_drop]; omega)
theorem items_same (xs : List S54) (hx : xs.length ≤ 100000) (d : Nat) : ∀ (k m : Nat), m + d = xs.length → d + 1 ≤ k → cellaretlaw4_items.l0 k xs xs (m : Int) = some true := by
  induction d with
  | zero =>
    intro k m hm hk
    obtain ⟨k, rfl⟩ : ∃ q, k = q + 1 := ⟨k - 1, by omega⟩
    simp only [cellaretlaw4_items.l0]
    rw [if_neg (by omega)]
  | succ d ih =>
    intro k m hm hk
    obtain ⟨k, rfl⟩ : ∃ q, k = q + 1 := ⟨k - 1, by omega⟩
    simp only [cellaretlaw4_items.l0]
    rw [if_pos (by omega), if_pos (by omega), if_pos (by omega), if_neg (by simp), wrap_succ m (by omega)]
    exact ih k (m + 1) (by omega) (by omega)
theorem items_ok (xs : List S54) (hx : xs.length ≤ 100000) {k : Nat} (hk : xs.length + 1 ≤ k) : cellaretlaw4_items.f k xs xs = some true := by
  unfold cellaretlaw4_items.f
  rw [if_pos rfl]
  exact items_same xs hx xs.length k 0 (by omega) hk
theorem j0_ok {l : List Int} (hw : Wf l) (hn : l.length ≤ 4000) {k : Nat} (hk : 60000 ≤ k) : cellaretlaw4_RecTakes.j0 (k + 1) l false = some true := by
  obtain ⟨r, hx, hr⟩ := lists 5000 l [] (by omega) (Nat.le_refl _) hw (by simp; omega)
  obtain ⟨h1, h2⟩ := hr k (by omega)
  simp only [cellaretlaw4_RecTakes.j0]
  rw [if_neg (by decide)]
  simp only [Option.bind_some, List.nil_append, List.length_nil]
  unfold rec_List.f cellaretref4_List.f
  rw [if_pos (by omega), h1]
  simp only [Option.bind_some]
  rw [strOfNums_eq, h2]
  simp only [Option.bind_some]
  cases r with
  | some xs =>
    have := hx xs rfl
    simp at this
    simp only [progR, refR]
    rw [if_pos (by decide), if_pos trivial, items_ok xs (by omega) (by omega)]
    rfl
  | none =>
    simp only [progR, refR]
    rw [if_pos (by decide), if_neg (by decide), if_pos trivial, items_ok [] (by decide) (by simp; omega)]
    rfl
end RecTakesParts
open RecTakesParts

theorem RecTakes : cellaretlaw4_RecTakes.Pure := by
  intro l h1 h2 hw
  have hW := wf_of hw
  refine ⟨60001, ?_⟩
  unfold cellaretlaw4_RecTakes.f
  rw [awake_ok (by decide)]
  simp only [Option.bind_some, if_true]
  by_cases hl : (l.length : Int) > 4000
  · rw [if_pos hl]
  rw [if_neg hl]
  simp only [List.nil_append, List.length_nil]
  have hb : bs (strOfNums l) = ns l := bs_strOfNums hW
  have hs : (strOfNums l).size = l.length := strOfNums_size l
  rw [if_pos (by omega), prog_take hW (by omega) (by omega)]
  simp only [Option.bind_some]
  rw [ref_take (by omega) (by omega), hb]
  simp only [Option.bind_some]
  rw [if_neg (by simp), if_pos trivial, bne_self_eq_false]
  exact j0_ok hW (by omega) (by decide)
end Go.Proofs.Ytefalfheeofhhaa.Pure
