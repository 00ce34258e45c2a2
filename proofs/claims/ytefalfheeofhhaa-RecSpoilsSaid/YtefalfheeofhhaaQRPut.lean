/- What the program's Put and the document's come to; and that Take reads it again. -/
import Derived.Test.YtefalfheeofhhaaQRTake
import Derived.Test.YtefalfheeofhhaaQRx6
namespace Go.Proofs.Ytefalfheeofhhaa.RecFacts
open Go.RowKit Go.Proofs.Ytefalfheeofhhaa.QR Go.Proofs.YtefalfheeofhhaaW.PrintWords Go.Proofs.YtefalfheeofhhaaW.PrintLast Go.Proofs.YtefalfheeofhhaaW.PrintMore

def headN (k v f e ver : Nat) : List Nat := [k % 256] ++ low v 2 ++ [82] ++ low f 4 ++ low e 8 ++ low ver 8
def putN (key value : List Nat) (f e ver : Nat) : List Nat :=
  headN key.length value.length f e ver ++ low (more 0 (headN key.length value.length f e ver)) 4 ++ low (more 0 (key ++ value)) 4 ++ (key ++ value)
theorem headN_length (k v f e ver : Nat) : (headN k v f e ver).length = 24 := by simp [headN, low_length]
theorem headN_lt (k v f e ver : Nat) : ∀ b ∈ headN k v f e ver, b < 256 := by
  intro b hb
  simp only [headN, List.mem_append, List.mem_singleton] at hb
  rcases hb with ((((h | h) | h) | h) | h) | h
  · omega
  · exact low_lt _ _ b h
  · omega
  · exact low_lt _ _ b h
  · exact low_lt _ _ b h
  · exact low_lt _ _ b h
theorem putN_lt {key value : List Nat} (hk : ∀ b ∈ key, b < 256) (hv : ∀ b ∈ value, b < 256) (f e ver : Nat) : ∀ b ∈ putN key value f e ver, b < 256 := by
  intro b hb
  simp only [putN, List.mem_append] at hb
  rcases hb with ((h | h) | h) | h | h
  · exact headN_lt _ _ _ _ _ b h
  · exact low_lt _ _ b h
  · exact low_lt _ _ b h
  · exact hk b h
  · exact hv b h
theorem putN_length (key value : List Nat) (f e ver : Nat) : (putN key value f e ver).length = 32 + key.length + value.length := by
  simp [putN, headN_length, low_length]; omega

theorem bytesOf_eq (s : ByteArray) : bytesOf s = ints (bs s) := by simp [bytesOf, ints, bs, Function.comp_def]
theorem ints_append (a b : List Nat) : ints (a ++ b) = ints a ++ ints b := by simp [ints]
theorem ints_length (a : List Nat) : (ints a).length = a.length := by simp [ints]
theorem wrapu (n : Nat) (h : n < 18446744073709551616) : IntKind.u64.wrap (n : Int) = (n : Int) := by rw [Crc.wrap_u64]; omega
def expN (e : Int) : Nat := (e % 18446744073709551616).toNat
theorem expN_lt (e : Int) : expN e < 18446744073709551616 := by unfold expN; omega
theorem wrap_exp (e : Int) : IntKind.u64.wrap e = (expN e : Int) := by rw [Crc.wrap_u64]; unfold expN; omega
theorem exp_back (e : Int) (h1 : -9223372036854775808 ≤ e) (h2 : e ≤ 9223372036854775807) : wrap64 (expN e : Int) = e := by unfold expN wrap64; omega
def goodP (k v : ByteArray) (ver : Int) : Bool := decide (1 ≤ k.size) && decide (k.size ≤ 250) && decide (v.size ≤ 1024) && decide (0 < ver)
theorem good_ok (k v : ByteArray) (f e ver : Int) : rec_Good.f k v f e ver = some (goodP k v ver) := by
  unfold rec_Good.f goodP
  by_cases h1 : 1 ≤ k.size
  · rw [if_pos (by omega)]
    by_cases h2 : k.size ≤ 250
    · rw [if_pos (by omega)]
      by_cases h3 : v.size ≤ 1024
      · rw [if_pos (by omega)]; simp [h1, h2, h3]
      · rw [if_neg (by omega)]; simp [h3]
    · rw [if_neg (by omega)]; simp [h2]
  · rw [if_neg (by omega)]; simp [h1]

section
variable {key value : ByteArray} {f ver : Nat} {e : Int} (hg : goodP key value ver = true) (hf : f < 4294967296)
include hg hf
theorem prog_put {k : Nat} (hk : 20000 ≤ k) : rec_Put.f k key value (f : Int) e (ver : Int) = some (ints (putN (bs key) (bs value) f (expN e) ver), 0) := by
  have hgd := hg
  unfold goodP at hgd
  simp only [Bool.and_eq_true, decide_eq_true_eq] at hgd
  obtain ⟨⟨⟨g1, g2⟩, g3⟩, g4⟩ := hgd
  unfold rec_Put.f
  rw [good_ok, hg]
  simp only [Option.bind_some, if_true]
  have hsz : (key ++ value).size = key.size + value.size := ByteArray.size_append
  rw [if_pos (by omega), if_pos (by omega)]
  rw [wrapu _ (by omega), show (2 : Int) = ((2 : Nat) : Int) from rfl, add_ok _ (by omega) (by simp) (by omega)]
  simp only [Option.bind_some]
  rw [if_pos (by simp [ints, low_length])]
  rw [wrapu f (by omega), show (4 : Int) = ((4 : Nat) : Int) from rfl, add_ok _ (by omega) (by simp [ints, low_length]) (by omega)]
  simp only [Option.bind_some]
  rw [wrap_exp, show (8 : Int) = ((8 : Nat) : Int) from rfl, add_ok _ (by omega) (by simp [ints, low_length]) (by omega)]
  simp only [Option.bind_some]
  rw [add_ok _ (by omega) (by simp [ints, low_length]) (by omega)]
  simp only [Option.bind_some]
  have eh : [(key.size : Int) % 256] ++ ints (low value.size 2) ++ [82] ++ ints (low f 4) ++ ints (low (expN e) 8) ++ ints (low ver 8) = ints (headN (bs key).length (bs value).length f (expN e) ver) := by
    rw [bs_length, bs_length]
    unfold headN
    simp [ints]
  rw [eh]
  have wh := wf_ints (headN_lt (bs key).length (bs value).length f (expN e) ver)
  have lh : (ints (headN (bs key).length (bs value).length f (expN e) ver)).length = 24 := by rw [ints_length, headN_length]
  rw [crc_ok wh (by omega) (by omega)]
  simp only [Option.bind_some]
  rw [ns_ints, wrapu _ (by have := more_lt (c := 0) (by decide) (headN_lt (bs key).length (bs value).length f (expN e) ver); omega), add_ok _ (by omega) (by omega) (by omega)]
  simp only [Option.bind_some]
  have lb : (bytesOf (key ++ value)).length = key.size + value.size := by rw [bytesOf_length, hsz]
  rw [crc_ok (wf_bytesOf _) (by omega) (by omega)]
  simp only [Option.bind_some]
  rw [ns_bytesOf, wrapu _ (by have := more_lt (c := 0) (by decide) (bs_lt (key ++ value)); omega), add_ok _ (by omega) (by rw [List.length_append, lh, ints_length, low_length]; omega) (by omega)]
  simp only [Option.bind_some]
  rw [if_pos (by rw [List.length_append, List.length_append, lh, ints_length, low_length, ints_length, low_length, lb]; omega)]
  rw [bytesOf_eq, bs_append]
  unfold putN
  simp only [ints_append]
end

/-! ### Taken again -/
theorem low_take_num (v n : Nat) (h : v < 256 ^ n) : num (low v n) = v := by rw [num_low, Nat.mod_eq_of_lt h]
theorem mid_of (a b c : List Nat) (i j : Nat) (hi : a.length = i) (hj : a.length + b.length = j) : ((a ++ (b ++ c)).take j).drop i = b := by
  subst hi; subst hj
  rw [List.take_append, List.take_of_length_le (by omega), List.drop_append_of_le_length (by omega), List.drop_length, List.nil_append]
  rw [show a.length + b.length - a.length = b.length from by omega]
  simp
theorem take_put {key value : List Nat} {f e ver : Nat} (hk1 : 1 ≤ key.length) (hk2 : key.length ≤ 250) (hv : value.length ≤ 1024) (hf : f < 4294967296) (he : e < 18446744073709551616) (h0 : 0 < ver) (hver : ver < 18446744073709551616) (rest : List Nat) (hkb : ∀ b ∈ key, b < 256) (hvb : ∀ b ∈ value, b < 256) :
    takeN (putN key value f e ver ++ rest) = (bytesN key, bytesN value, (f : Int), wrap64 (e : Int), (ver : Int), ((32 + key.length + value.length : Nat) : Int), 0) := by
  have hK : key.length % 256 = key.length := by omega
  generalize hH : headN key.length value.length f e ver = H
  have lH : H.length = 24 := by rw [← hH, headN_length]
  have hHb : ∀ b ∈ H, b < 256 := by rw [← hH]; exact headN_lt _ _ _ _ _
  have eL : putN key value f e ver ++ rest = H ++ (low (more 0 H) 4 ++ (low (more 0 (key ++ value)) 4 ++ ((key ++ value) ++ rest))) := by
    unfold putN; rw [hH]; simp only [List.append_assoc]
  generalize hL : putN key value f e ver ++ rest = L at eL
  have lL : 32 + key.length + value.length ≤ L.length := by rw [eL]; simp [lH, low_length]; omega
  have hm1 : more 0 H < 256 ^ 4 := by have := more_lt (c := 0) (by decide) hHb; omega
  have hm2 : more 0 (key ++ value) < 256 ^ 4 := by
    have := more_lt (c := 0) (l := key ++ value) (by decide) (fun b hb => by rcases List.mem_append.1 hb with h | h; exact hkb b h; exact hvb b h)
    omega
  have eH : H = [key.length] ++ (low value.length 2 ++ ([82] ++ (low f 4 ++ (low e 8 ++ low ver 8)))) := by
    rw [← hH]; unfold headN; rw [hK]; simp only [List.append_assoc]
  have cH : ∀ i j, j ≤ 24 → (L.take j).drop i = (H.take j).drop i := fun i j hj => by
    rw [eL, List.take_append_of_le_length (by omega)]
  have p0 : kOf L = key.length := by
    unfold kOf; rw [eL, eH]; rfl
  have p1 : vOf L = value.length := by
    unfold vOf; rw [cH 1 3 (by omega), eH, mid_of [key.length] (low value.length 2) _ 1 3 rfl (by simp [low_length]), low_take_num _ _ (by omega)]
  have p3 : L.getD 3 0 = 82 := by
    rw [eL, eH]
    simp [low]
  have pf : num ((L.take 8).drop 4) = f := by
    rw [cH 4 8 (by omega), eH]
    have := mid_of ([key.length] ++ (low value.length 2 ++ [82])) (low f 4) (low e 8 ++ low ver 8) 4 8 (by simp [low_length]) (by simp [low_length])
    simp only [List.append_assoc] at this ⊢
    rw [this, low_take_num _ _ (by omega)]
  have pe : num ((L.take 16).drop 8) = e := by
    rw [cH 8 16 (by omega), eH]
    have := mid_of ([key.length] ++ (low value.length 2 ++ ([82] ++ low f 4))) (low e 8) (low ver 8) 8 16 (by simp [low_length]) (by simp [low_length])
    simp only [List.append_assoc] at this ⊢
    rw [this, low_take_num _ _ (by omega)]
  have pv : num ((L.take 24).drop 16) = ver := by
    rw [cH 16 24 (by omega), eH]
    have := mid_of ([key.length] ++ (low value.length 2 ++ ([82] ++ (low f 4 ++ low e 8)))) (low ver 8) [] 16 24 (by simp [low_length]) (by simp [low_length])
    simp only [List.append_assoc, List.append_nil] at this ⊢
    rw [this, low_take_num _ _ (by omega)]
  have t24 : L.take 24 = H := by rw [eL, List.take_append_of_le_length (by omega), List.take_of_length_le (by omega)]
  have c24 : num ((L.take 28).drop 24) = more 0 H := by
    rw [eL, mid_of H (low (more 0 H) 4) _ 24 28 lH (by simp [lH, low_length]), low_take_num _ _ hm1]
  have c28 : num ((L.take 32).drop 28) = more 0 (key ++ value) := by
    have := mid_of (H ++ low (more 0 H) 4) (low (more 0 (key ++ value)) 4) ((key ++ value) ++ rest) 28 32 (by simp [lH, low_length]) (by simp [lH, low_length])
    rw [eL]
    simp only [List.append_assoc] at this ⊢
    rw [this, low_take_num _ _ hm2]
  have pE : eOf L = 32 + key.length + value.length := by unfold eOf; rw [p0, p1]
  have body : (L.take (eOf L)).drop 32 = key ++ value := by
    have := mid_of (H ++ (low (more 0 H) 4 ++ low (more 0 (key ++ value)) 4)) (key ++ value) rest 32 (eOf L) (by simp [lH, low_length]) (by rw [pE]; simp [lH, low_length]; omega)
    conv => lhs; rw [eL]
    simp only [List.append_assoc, eL] at this ⊢
    exact this
  have pk : (L.take (32 + kOf L)).drop 32 = key := by
    have := mid_of (H ++ (low (more 0 H) 4 ++ low (more 0 (key ++ value)) 4)) key (value ++ rest) 32 (32 + kOf L) (by simp [lH, low_length]) (by rw [p0]; simp [lH, low_length])
    conv => lhs; rw [eL]
    simp only [List.append_assoc, eL] at this ⊢
    exact this
  have pv2 : (L.take (eOf L)).drop (32 + kOf L) = value := by
    have := mid_of (H ++ (low (more 0 H) 4 ++ (low (more 0 (key ++ value)) 4 ++ key))) value rest (32 + kOf L) (eOf L) (by rw [p0]; simp [lH, low_length]; omega) (by rw [pE]; simp [lH, low_length]; omega)
    conv => lhs; rw [eL]
    simp only [List.append_assoc, eL] at this ⊢
    exact this
  have okh : headOk L = true := by
    unfold headOk
    rw [p3, c24, t24]
    simp; omega
  have okr : restOk L = true := by
    unfold restOk
    rw [c28, body, pE, p0, p1, pv]
    simp [hk2, hv, h0, lL]
  unfold takeN
  rw [if_neg (by rw [p0]; omega), okh, okr]
  simp only [Bool.and_self, if_true]
  unfold okR
  rw [pk, pv2, pf, pe, pv, pE]
end Go.Proofs.Ytefalfheeofhhaa.RecFacts
