/- What the document's Put comes to: the same function. -/
import Derived.Test.YtefalfheeofhhaaQRItem
import Derived.Test.YtefalfheeofhhaaQRx21
namespace Go.Proofs.Ytefalfheeofhhaa.RecFacts
open Go.RowKit Go.Proofs.Ytefalfheeofhhaa.QR Go.Proofs.YtefalfheeofhhaaW.PrintWords Go.Proofs.YtefalfheeofhhaaW.PrintLast Go.Proofs.YtefalfheeofhhaaW.PrintMore
theorem low_l0 (v n : Nat) (hn : n ≤ 8) (d : Nat) : ∀ (k m : Nat), m + d = n → d + 1 ≤ k → cellaretref4_Low.l0 k (v : Int) (n : Int) (bytesN (low v m)) (m : Int) = some (bytesN (low v n)) := by
  induction d with
  | zero =>
    intro k m hm hk
    obtain ⟨k, rfl⟩ : ∃ q, k = q + 1 := ⟨k - 1, by omega⟩
    obtain rfl : m = n := by omega
    simp only [cellaretref4_Low.l0]
    rw [if_neg (by omega)]
  | succ d ih =>
    intro k m hm hk
    obtain ⟨k, rfl⟩ : ∃ q, k = q + 1 := ⟨k - 1, by omega⟩
    simp only [cellaretref4_Low.l0]
    have h8 : IntKind.u64.wrap (wrap64 (8 * (m : Int))) = ((8 * m : Nat) : Int) := by rw [Crc.wrap_u64]; unfold wrap64; omega
    have hsz : (bytesN (low v m)).size = m := by rw [← bs_length, bs_bytesN (low_lt v m), low_length]
    rw [if_pos (by omega), h8, if_pos (by omega)]
    simp only [Option.bind_some]
    rw [if_pos (by rw [strOfNums_size, hsz]; simp; omega), shr_u64 v m (by omega), wrap_succ m (by omega)]
    have hb : bytesN (low v m) ++ strOfNums [((v / 256 ^ m % 256 : Nat) : Int)] = bytesN (low v (m + 1)) := by
      apply bs_inj
      rw [bs_append, bs_bytesN (low_lt v m), bs_bytesN (low_lt v (m + 1)), low_snoc, bs_strOfNums (fun x hx => by rw [List.mem_singleton.1 hx]; omega)]
      simp only [ns, List.map_cons, List.map_nil, Int.toNat_natCast]
    rw [hb]
    exact ih k (m + 1) (by omega) (by omega)
theorem low_ok {v n k : Nat} (hn : n ≤ 8) (hk : 9 ≤ k) : cellaretref4_Low.f k (v : Int) (n : Int) = some (bytesN (low v n)) := by
  unfold cellaretref4_Low.f
  have h := low_l0 v n hn n k 0 (by omega) (by omega)
  exact h
theorem bytesN_append (a b : List Nat) : bytesN a ++ bytesN b = bytesN (a ++ b) := by
  unfold bytesN
  ext1
  simp
theorem bytesN_size (a : List Nat) : (bytesN a).size = a.length := by unfold bytesN; simp [ByteArray.size]
theorem ref_put {key value : ByteArray} {f ver : Nat} {e : Int} (hg : goodP key value ver = true) (hf : f < 4294967296) {k : Nat} (hk : 20000 ≤ k) :
    cellaretref4_Put.f k key value (f : Int) e (ver : Int) = some (bytesN (putN (bs key) (bs value) f (expN e) ver)) := by
  have hgd := hg
  unfold goodP at hgd
  simp only [Bool.and_eq_true, decide_eq_true_eq] at hgd
  obtain ⟨⟨⟨g1, g2⟩, g3⟩, g4⟩ := hgd
  unfold cellaretref4_Put.f
  have hsz : (key ++ value).size = key.size + value.size := ByteArray.size_append
  have z1 : ∀ v n, (bytesN (low v n)).size = n := fun v n => by rw [bytesN_size, low_length]
  have e82 : (⟨#[82]⟩ : ByteArray) = bytesN [82] := rfl
  rw [wrapu _ (by omega), show (1 : Int) = ((1 : Nat) : Int) from rfl, low_ok (by omega) (by omega)]
  simp only [Option.bind_some]
  rw [wrapu _ (by omega), show (2 : Int) = ((2 : Nat) : Int) from rfl, low_ok (by omega) (by omega)]
  simp only [Option.bind_some]
  rw [if_pos (by rw [z1, z1]; omega), e82, if_pos (by rw [ByteArray.size_append, z1, z1]; omega)]
  rw [wrapu f (by omega), show (4 : Int) = ((4 : Nat) : Int) from rfl, low_ok (by omega) (by omega)]
  simp only [Option.bind_some, bytesN_append]
  rw [if_pos (by rw [bytesN_size, z1]; simp [low_length])]
  rw [wrap_exp, show (8 : Int) = ((8 : Nat) : Int) from rfl, low_ok (by omega) (by omega)]
  simp only [Option.bind_some, bytesN_append]
  rw [if_pos (by rw [bytesN_size, z1]; simp [low_length]), low_ok (by omega) (by omega)]
  simp only [Option.bind_some, bytesN_append]
  rw [if_pos (by rw [bytesN_size, z1]; simp [low_length])]
  have eh : low key.size 1 ++ low value.size 2 ++ [82] ++ low f 4 ++ low (expN e) 8 ++ low ver 8 = headN (bs key).length (bs value).length f (expN e) ver := by
    rw [bs_length, bs_length]
    unfold headN
    simp [low]
  rw [eh]
  have hh := headN_lt (bs key).length (bs value).length f (expN e) ver
  have lh := headN_length (bs key).length (bs value).length f (expN e) ver
  rw [refcrc_ok _ (by rw [bytesN_size, lh]; omega) (by rw [bytesN_size, lh]; omega)]
  simp only [Option.bind_some]
  rw [bs_bytesN hh, low_ok (by omega) (by omega)]
  simp only [Option.bind_some]
  rw [if_pos (by rw [bytesN_size, z1, lh]; omega), if_pos (by omega)]
  rw [refcrc_ok _ (by omega) (by omega)]
  simp only [Option.bind_some]
  rw [low_ok (by omega) (by omega)]
  simp only [Option.bind_some]
  have sh : (bytesN (headN (bs key).length (bs value).length f (expN e) ver)).size = 24 := by rw [bytesN_size, lh]
  rw [if_pos (by simp only [ByteArray.size_append, z1, sh]; omega), if_pos (by simp only [ByteArray.size_append, z1, sh]; omega), if_pos (by simp only [ByteArray.size_append, z1, sh]; omega)]
  have : ∀ t : ByteArray, t = bytesN (bs t) := fun t => (bytesN_bs t).symm
  rw [bs_append]
  conv => lhs; rw [this key, this value]
  simp only [bytesN_append, bs_bytesN (bs_lt key), bs_bytesN (bs_lt value)]
  unfold putN
  simp only [List.append_assoc]

theorem Item.refput {x : Item} (hx : x.ok) (hg : x.good = true) {k : Nat} (hk : 20000 ≤ k) : cellaretref4_Put.f k x.key x.value x.flags x.exp x.ver = some (bytesN x.rec_) := by
  obtain ⟨⟨f0, f1⟩, _, v0, v1⟩ := hx
  have h := ref_put (key := x.key) (value := x.value) (f := x.flags.toNat) (ver := x.ver.toNat) (e := x.exp) (by rw [Int.toNat_of_nonneg v0]; exact hg) (by omega) hk
  rw [Int.toNat_of_nonneg f0, Int.toNat_of_nonneg v0] at h
  exact h
end Go.Proofs.Ytefalfheeofhhaa.RecFacts
