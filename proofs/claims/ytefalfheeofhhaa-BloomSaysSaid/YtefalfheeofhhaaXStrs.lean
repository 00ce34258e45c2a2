/- A row's slice of strings: as one list that is read, each string no longer than its weight allows. -/
import Derived.SliceStrings
import Derived.SizedLaws
import Derived.Test.YtefalfheeofhhaaWWords
namespace Go.Proofs.Ytefalfheeofhhaa.XStrs
open Go.ChangeShapes Go.WideShapes Go.RowKit Go.Proofs.YtefalfheeofhhaaW.PrintWords
theorem weightsAll_strs {H : Type} {P : Program} {e : TypeId} : ∀ (ss : List ByteArray) (s : ByteArray), s ∈ ss → s.size ∈ DataW.weightsAll P e (strs (H := H) ss)
 | [], s, h => by simp at h
 | x :: ss, s, h => by
  show s.size ∈ DataW.weightsAll P e ((.lit (.string x.data.toList) : DataW H) :: strs ss)
  simp only [DataW.weightsAll, List.mem_append]
  rcases List.mem_cons.1 h with rfl | h
  · left
    simp [DataW.weights]
  · exact .inr (weightsAll_strs ss s h)
theorem open_strs {H : Type} {enc : TypeId × Value → H} {P : Program} {W : World} {base : Nat} {spare : Nat → Bool} {held : Bool} {t e : TypeId} {a : Option Addr} {len cap : Nat} {d : DataW H} {ps : List MemPlace} {ts : List TypeId} {ds : List (DataW H)} {j : Nat}
    (hsz : (DataW.weightsEach P ts ds).all (· ≤ reachBytes) = true) (ht : ts[j]? = some t) (hd : ds[j]? = some d) (hu : P.underlying t = some (.slice e)) (he : P.underlying e = some .string) (hc : P.cellsOf e = 1)
    (h : DataW.Trod enc P W base spare held t (.slice a len cap) d ps) : ∃ ss : List ByteArray, ss.length = len ∧ len ≤ cap ∧ len ≤ 9223372036854775807 ∧ Kd.C Kd.string W a len ss ∧ ∀ s ∈ ss, s.size ≤ 140737488351232 := by
 obtain ⟨fuel, hf⟩ := h
 rcases open_strings hu he hc hf with ⟨hcs, _⟩ | ⟨x, l, c, ss, hcs, _, hl, hm, hz, hx, hcell, _⟩
 · simp [Value.cells] at hcs
   obtain ⟨rfl, rfl, rfl⟩ := hcs
   exact ⟨[], rfl, Nat.le_refl _, by omega, Kd.C_nil _ _, by simp⟩
 · simp [Value.cells] at hcs
   obtain ⟨rfl, rfl, rfl⟩ := hcs
   obtain ⟨hx, _⟩ := Prod.mk.inj hx
   subst hx
   have hl2 : len ≤ ss.length := by
    rw [hz]
    split
    · exact hl
    · exact Nat.le_refl _
   have hm2 : len ≤ 9223372036854775807 := by
    have := hm
    simp [maxLen] at this
    omega
   refine ⟨ss.take len, by simp; omega, hl, hm2, ⟨by simp; omega, hm2, fun hn => ⟨x, rfl, fun j p hj => ⟨[.string p], rfl, rfl, fun i u hi => ?_⟩⟩⟩, ?_⟩
   · cases i with
     | zero =>
      have hu : Value.string p = u := by simpa using hi
      subst hu
      have hjl : j < len := by
       have := (List.getElem?_eq_some_iff.1 hj).1
       simp at this
       omega
      have h1 := hcell j (by omega)
      rw [List.getElem?_take_of_lt hjl] at hj
      rw [List.getD_eq_getElem?_getD, hj] at h1
      rw [show j * Kd.string.sz + 0 = j from by show j * 1 + 0 = j; omega]
      exact h1
     | succ i => simp at hi
   · intro s hs
     have := List.all_eq_true.1 hsz _ (DataW.weights_mem_each ht hd s.size (by
      simp only [DataW.weights, hu, List.mem_cons, List.mem_append]
      exact .inr (.inl (weightsAll_strs _ s hs))))
     exact Nat.le_trans (of_decide_eq_true this) (by decide)
end Go.Proofs.Ytefalfheeofhhaa.XStrs
