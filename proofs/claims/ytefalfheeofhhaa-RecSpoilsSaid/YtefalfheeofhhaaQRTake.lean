/- What the program's Take and the document's come to: one and the same function on bytes. -/
import Derived.Test.YtefalfheeofhhaaQRFacts
import Derived.Test.YtefalfheeofhhaaQRx8
namespace Go.Proofs.Ytefalfheeofhhaa.RecFacts
open Go.RowKit Go.Proofs.Ytefalfheeofhhaa.QR Go.Proofs.YtefalfheeofhhaaW.PrintWords Go.Proofs.YtefalfheeofhhaaW.PrintLast Go.Proofs.YtefalfheeofhhaaW.PrintMore

abbrev TakeR := ByteArray × ByteArray × Int × Int × Int × Int × Int
def bytesN (l : List Nat) : ByteArray := ⟨(l.map UInt8.ofNat).toArray⟩
def noneR : TakeR := (⟨#[]⟩, ⟨#[]⟩, 0, 0, 0, 0, 5)
def formR : TakeR := (⟨#[]⟩, ⟨#[]⟩, 0, 0, 0, 0, 3)
def kOf (l : List Nat) : Nat := l.getD 0 0
def vOf (l : List Nat) : Nat := num ((l.take 3).drop 1)
def eOf (l : List Nat) : Nat := 32 + kOf l + vOf l
def okR (l : List Nat) : TakeR :=
  (bytesN ((l.take (32 + kOf l)).drop 32), bytesN ((l.take (eOf l)).drop (32 + kOf l)), (num ((l.take 8).drop 4) : Int), wrap64 (num ((l.take 16).drop 8) : Int), (num ((l.take 24).drop 16) : Int), (eOf l : Int), 0)
/-- The head has its form. -/
def headOk (l : List Nat) : Bool := decide (32 ≤ l.length) && decide (l.getD 3 0 = 82) && decide (num ((l.take 28).drop 24) = more 0 (l.take 24))
def restOk (l : List Nat) : Bool := decide (eOf l ≤ l.length) && decide (num ((l.take 32).drop 28) = more 0 ((l.take (eOf l)).drop 32)) && (decide (kOf l ≤ 250) && decide (vOf l ≤ 1024) && decide (0 < num ((l.take 24).drop 16)))
def takeN (l : List Nat) : TakeR := if l.length = 0 ∨ kOf l = 0 then noneR else if headOk l && restOk l then okR l else formR

theorem strOfNums_eq (xs : List Int) : strOfNums xs = bytesN (ns xs) := by
  unfold strOfNums bytesN ns
  rw [List.map_map]
  rfl
theorem bs_bytesN {l : List Nat} (h : ∀ b ∈ l, b < 256) : bs (bytesN l) = l := by
  unfold bytesN
  simp only [bs, List.map_map]
  conv => rhs; rw [← List.map_id l]
  apply List.map_congr_left
  intro b hb
  have := h b hb
  simp only [Function.comp_apply, id, UInt8.toNat_ofNat']
  omega
theorem bytesN_bs (s : ByteArray) : bytesN (bs s) = s := by
  unfold bytesN bs
  rw [List.map_map]
  have : (UInt8.ofNat ∘ UInt8.toNat) = id := by funext x; simp
  rw [this, List.map_id]
theorem bs_inj {s t : ByteArray} (h : bs s = bs t) : s = t := by rw [← bytesN_bs s, h, bytesN_bs]
theorem toList_inj {s t : ByteArray} : s.toList = t.toList ↔ s = t := by
  constructor
  · intro h
    rw [ByteArray.toList_eq, ByteArray.toList_eq] at h
    apply bs_inj
    unfold bs
    rw [h]
  · rintro rfl; rfl
theorem bs_extract (s : ByteArray) (a b : Nat) : bs (s.extract a b) = ((bs s).take b).drop a := by
  unfold bs
  rw [ByteArray.data_extract, Array.toList_extract, List.extract_eq_take_drop]
  simp only [List.map_drop, List.map_take]
  rw [List.drop_take]
theorem rd_getD {l : List Int} (h : Wf l) (m : Nat) (hm : m < l.length) : rd l m = ((ns l).getD m 0 : Int) := by
  have hx := h l[m] (List.getElem_mem hm)
  simp [rd, List.getD_eq_getElem?_getD, hm]
  omega
theorem bt_getD (s : ByteArray) (m : Nat) (hm : m < s.size) : bt s m = ((bs s).getD m 0 : Int) := by
  obtain ⟨b, hb, _, hd⟩ := bt_nat s m hm
  rw [hb]
  have : (bs s)[m]? = some b := by rw [← List.head?_drop, hd]; rfl
  rw [List.getD_eq_getElem?_getD, this]
  rfl
theorem num_le {l : List Nat} (h : ∀ b ∈ l, b < 256) (n : Nat) (hn : l.length ≤ n) : num l < 256 ^ n := Nat.lt_of_lt_of_le (num_lt h) (Nat.pow_le_pow_right (by decide) hn)

theorem wf_take {l : List Int} (h : Wf l) (n : Nat) : Wf (l.take n) := fun x hx => h x (List.mem_of_mem_take hx)
theorem wf_drop {l : List Int} (h : Wf l) (n : Nat) : Wf (l.drop n) := fun x hx => h x (List.mem_of_mem_drop hx)
theorem ns_mid (l : List Int) (a b : Nat) : ns ((l.take b).drop a) = ((ns l).take b).drop a := by simp [ns, List.map_drop, List.map_take]
theorem lt_mid {l : List Nat} (h : ∀ b ∈ l, b < 256) (a b : Nat) : ∀ x ∈ (l.take b).drop a, x < 256 := fun x hx => h x (List.mem_of_mem_take (List.mem_of_mem_drop hx))
theorem num_mid_lt {l : List Nat} (h : ∀ b ∈ l, b < 256) (a b n : Nat) (hn : b - a ≤ n) : num ((l.take b).drop a) < 256 ^ n := num_le (lt_mid h a b) n (by simp; omega)

theorem kOf_lt {l : List Nat} (h : ∀ b ∈ l, b < 256) : kOf l < 256 := by
  unfold kOf
  rw [List.getD_eq_getElem?_getD]
  cases hx : l[0]? with
  | none => simp
  | some b => exact h b (List.mem_of_getElem? hx)
theorem vOf_lt {l : List Nat} (h : ∀ b ∈ l, b < 256) : vOf l < 65536 := num_mid_lt h 1 3 2 (by omega)

/-! ### The program's -/
section
variable {l : List Int} (hl : Wf l) (hn : l.length ≤ 1000000)
include hl hn
theorem take_j2 {k : Nat} (hk : 10 * l.length + 12 ≤ k) (hb : eOf (ns l) ≤ l.length) (h32 : 32 ≤ l.length) (h0 : kOf (ns l) ≠ 0) : rec_Take.j2 (k + 1) l (kOf (ns l) : Int) (eOf (ns l) : Int) false =
    some (if decide (kOf (ns l) ≤ 250) && decide (vOf (ns l) ≤ 1024) && decide (0 < num (((ns l).take 24).drop 16)) then okR (ns l) else formR) := by
  have hw := ns_lt hl
  have hK := kOf_lt hw
  have hV := vOf_lt hw
  have hE : eOf (ns l) = 32 + kOf (ns l) + vOf (ns l) := rfl
  have e32 : wrap64 (32 + (kOf (ns l) : Int)) = ((32 + kOf (ns l) : Nat) : Int) := by unfold wrap64; omega
  simp only [rec_Take.j2]
  rw [if_neg (by decide), e32, if_pos (by omega), if_pos (by omega), if_pos (by omega), if_pos (by omega), if_pos (by omega), if_pos (by omega), if_pos (by omega)]
  rw [number_ok (wf_drop (wf_take hl _) _) (by simp; omega) (by omega)]; simp only [Option.bind_some]
  rw [if_pos (by omega), if_pos (by omega), number_ok (wf_drop (wf_take hl _) _) (by simp; omega) (by omega)]; simp only [Option.bind_some]
  rw [if_pos (by omega), if_pos (by omega), number_ok (wf_drop (wf_take hl _) _) (by simp; omega) (by omega)]; simp only [Option.bind_some]
  simp only [Int.toNat_natCast, ns_mid]
  have hf : num (((ns l).take 8).drop 4) < 4294967296 := num_mid_lt hw 4 8 4 (by omega)
  have s0 : (strOfNums ((l.take (32 + kOf (ns l))).drop 32)).size = kOf (ns l) := by rw [strOfNums_size]; simp; omega
  have s1 : (strOfNums ((l.take (eOf (ns l))).drop (32 + kOf (ns l)))).size = vOf (ns l) := by rw [strOfNums_size]; simp; omega
  unfold rec_Good.f
  rw [s0, s1, if_pos (by omega)]
  by_cases c1 : kOf (ns l) ≤ 250
  · rw [if_pos (by omega)]
    by_cases c2 : vOf (ns l) ≤ 1024
    · rw [if_pos (by omega)]
      simp only [Option.bind_some]
      by_cases c3 : 0 < num (((ns l).take 24).drop 16)
      · rw [if_pos (by simp; omega), if_pos (by simp [c1, c2, c3])]
        unfold okR
        rw [strOfNums_eq, strOfNums_eq, ns_mid, ns_mid]
        rw [show ((num (((ns l).take 8).drop 4) : Int) % 4294967296) = (num (((ns l).take 8).drop 4) : Int) from by omega]
      · rw [if_neg (by simp; omega), if_neg (by simp [c3])]
        rfl
    · rw [if_neg (by omega)]
      simp only [Option.bind_some]
      rw [if_neg (by decide), if_neg (by simp [c2])]
      rfl
  · rw [if_neg (by omega)]
    simp only [Option.bind_some]
    rw [if_neg (by decide), if_neg (by simp [c1])]
    rfl
omit hl hn in
theorem take_j2_bad {k : Nat} (x y : Int) : rec_Take.j2 (k + 1) l x y true = some formR := by simp only [rec_Take.j2]; rfl
theorem take_j1 {k : Nat} (hk : 10 * l.length + 13 ≤ k) (h32 : 32 ≤ l.length) (h0 : kOf (ns l) ≠ 0) : rec_Take.j1 (k + 1) l false = some (if restOk (ns l) then okR (ns l) else formR) := by
  obtain ⟨k, rfl⟩ : ∃ q, k = q + 1 := ⟨k - 1, by omega⟩
  have hw := ns_lt hl
  have hK := kOf_lt hw
  have hV := vOf_lt hw
  have hE : eOf (ns l) = 32 + kOf (ns l) + vOf (ns l) := rfl
  have er : rd l 0 = (kOf (ns l) : Int) := rd_getD hl 0 (by omega)
  simp only [rec_Take.j1]
  rw [if_neg (by decide), if_pos (by omega), if_pos (by omega), if_pos (by omega)]
  rw [number_ok (wf_drop (wf_take hl _) _) (by simp; omega) (by omega)]; simp only [Option.bind_some]
  rw [ns_mid, er]
  have w0 : wrap64 (kOf (ns l) : Int) = (kOf (ns l) : Int) := by unfold wrap64; omega
  have w1 : wrap64 (num (((ns l).take 3).drop 1) : Int) = (vOf (ns l) : Int) := by
    show wrap64 (vOf (ns l) : Int) = _
    unfold wrap64; omega
  have w2 : wrap64 (wrap64 (32 + (kOf (ns l) : Int)) + (vOf (ns l) : Int)) = (eOf (ns l) : Int) := by unfold wrap64; omega
  rw [w0, w1, w2]
  by_cases c1 : eOf (ns l) ≤ l.length
  · rw [if_neg (by omega), if_pos (by omega), if_pos (by omega)]
    rw [number_ok (wf_drop (wf_take hl _) _) (by simp; omega) (by omega)]; simp only [Option.bind_some]
    rw [if_pos (by omega), if_pos (by omega)]
    simp only [Int.toNat_natCast]
    have wm := wf_drop (wf_take hl (eOf (ns l))) 32
    rw [crc_ok wm (by simp; omega) (by simp; omega)]; simp only [Option.bind_some]
    have hm := more_lt (c := 0) (by decide) (ns_lt wm)
    rw [show IntKind.u64.wrap (more 0 (ns ((l.take (eOf (ns l))).drop 32)) : Int) = (more 0 (ns ((l.take (eOf (ns l))).drop 32)) : Int) from by rw [Crc.wrap_u64]; omega]
    rw [ns_mid, ns_mid]
    by_cases c2 : num (((ns l).take 32).drop 28) = more 0 (((ns l).take (eOf (ns l))).drop 32)
    · rw [c2, bne_self_eq_false, take_j2 hl hn (by omega) c1 h32 h0]
      unfold restOk
      simp [c1, c2]
    · rw [show (((num (((ns l).take 32).drop 28) : Nat) : Int) != (more 0 (((ns l).take (eOf (ns l))).drop 32) : Int)) = true from by rw [bne_iff_ne]; omega, take_j2_bad]
      unfold restOk
      simp [c2]
  · rw [if_pos (by omega), take_j2_bad]
    unfold restOk
    rw [if_neg (by simp; omega)]
omit hl hn in
theorem take_j1_bad {k : Nat} : rec_Take.j1 (k + 1) l true = some formR := by simp only [rec_Take.j1]; rfl
theorem prog_take {k : Nat} (hk : 10 * l.length + 16 ≤ k) : rec_Take.f k l = some (takeN (ns l)) := by
  obtain ⟨k, rfl⟩ : ∃ q, k = q + 2 := ⟨k - 2, by omega⟩
  have hw := ns_lt hl
  unfold rec_Take.f
  by_cases c0 : l.length = 0
  · rw [if_pos (by omega)]
    have e : takeN (ns l) = noneR := by
      unfold takeN
      rw [if_pos (.inl (by simpa using c0))]
    rw [e]
    simp only [rec_Take.j0]
    rfl
  rw [if_neg (by omega), if_pos (by omega)]
  have er : rd l 0 = (kOf (ns l) : Int) := rd_getD hl 0 (by omega)
  rw [er]
  by_cases cz : kOf (ns l) = 0
  · have e : takeN (ns l) = noneR := by
      unfold takeN
      rw [if_pos (.inr cz)]
    rw [cz, e]
    simp only [rec_Take.j0]
    rfl
  rw [show ((kOf (ns l) : Int) == 0) = false from by rw [beq_eq_false_iff_ne]; omega]
  have e : takeN (ns l) = if headOk (ns l) && restOk (ns l) then okR (ns l) else formR := by
    unfold takeN
    rw [if_neg (by rintro (h | h); exact c0 (by simpa using h); exact cz h)]
  rw [e]
  simp only [rec_Take.j0]
  rw [if_neg (by decide)]
  by_cases c32 : l.length < 32
  · rw [if_pos (by omega), take_j1_bad, if_neg (by unfold headOk; simp; omega)]
  rw [if_neg (by omega), if_pos (by omega)]
  have e3 : rd l 3 = ((ns l).getD 3 0 : Int) := rd_getD hl 3 (by omega)
  rw [e3]
  by_cases c82 : (ns l).getD 3 0 = 82
  · rw [if_pos (by omega), if_pos (by omega), if_pos (by omega)]
    rw [number_ok (wf_drop (wf_take hl _) _) (by simp; omega) (by omega)]; simp only [Option.bind_some]
    have wm := wf_take hl 24
    rw [if_pos (by omega), crc_ok wm (by simp; omega) (by simp; omega)]; simp only [Option.bind_some]
    have hm := more_lt (c := 0) (by decide) (ns_lt wm)
    rw [show IntKind.u64.wrap (more 0 (ns (l.take 24)) : Int) = (more 0 (ns (l.take 24)) : Int) from by rw [Crc.wrap_u64]; omega]
    rw [ns_mid, show ns (l.take 24) = (ns l).take 24 from by simp [ns, List.map_take]]
    by_cases c2 : num (((ns l).take 28).drop 24) = more 0 ((ns l).take 24)
    · rw [c2, bne_self_eq_false, take_j1 hl hn (by omega) (by omega) cz]
      have : headOk (ns l) = true := by unfold headOk; rw [c82, c2]; simp; omega
      rw [this, Bool.true_and]
    · rw [show (((num (((ns l).take 28).drop 24) : Nat) : Int) != (more 0 ((ns l).take 24) : Int)) = true from by rw [bne_iff_ne]; omega, take_j1_bad, if_neg (by unfold headOk; simp [c2])]
  · rw [if_neg (by omega), take_j1_bad, if_neg (by unfold headOk; rw [decide_eq_false c82]; simp)]
end
end Go.Proofs.Ytefalfheeofhhaa.RecFacts
