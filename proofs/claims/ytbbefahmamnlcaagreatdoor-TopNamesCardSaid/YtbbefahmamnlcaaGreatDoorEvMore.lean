/- The sum of bytes: the program's function, and what the reckoner takes it for. -/
import Derived.Test.YtbbefahmamnlcaaGreatDoorEvExt
import Derived.Test.YtbbefahmamnlcaaGreatDoorProg
import Derived.WalkKit
import Derived.Tactics
import Derived.Tactics2
import Derived.LoopTactic
import Derived.Laws.Pointers
import Derived.Laws.Entries
import Derived.Laws.BitsLemmas
import Derived.Lib.Hide
set_option linter.unusedVariables false
set_option linter.unusedSimpArgs false
set_option linter.unusedSectionVars false
namespace Go.Ev
open Go Go.RowKit Go.Proofs
theorem xor_u32 (a b : Nat) (ha : a < 2 ^ 32) (hb : b < 2 ^ 32) : bits .xor .u32 a b = ((a ^^^ b : Nat) : Int) := by
 have hx : a ^^^ b < 2 ^ 32 := Nat.xor_lt_two_pow ha hb
 simp only [bits, BitVec.ofInt_natCast, BitVec.toNat_xor, BitVec.toNat_ofNat]
 rw [show IntKind.u32.bits = 32 from rfl, Nat.mod_eq_of_lt ha, Nat.mod_eq_of_lt hb, IntKind.wrap_u32]
 omega
theorem and1_u32 (a : Nat) (ha : a < 2 ^ 32) : bits .and .u32 a 1 = ((a % 2 : Nat) : Int) := by
 simp only [bits]
 rw [show ((1 : Int)) = ((1 : Nat) : Int) from rfl]
 simp only [BitVec.ofInt_natCast, BitVec.toNat_and, BitVec.toNat_ofNat]
 rw [show IntKind.u32.bits = 32 from rfl, Nat.mod_eq_of_lt ha, Nat.mod_eq_of_lt (show 1 < 2 ^ 32 by decide), IntKind.wrap_u32, Nat.and_one_is_mod]
 omega
theorem cBit_lt {c : Nat} (h : c < 2 ^ 32) : cBit c < 2 ^ 32 := by
 unfold cBit
 cases Nat.beq (Nat.mod c 2) 1
 · show Nat.div c 2 < _
   have : Nat.div c 2 = c / 2 := rfl
   omega
 · show Nat.xor (Nat.div c 2) 2197175160 < _
   refine Nat.xor_lt_two_pow ?_ (by decide)
   have : Nat.div c 2 = c / 2 := rfl
   omega
theorem cBits_succ (n c : Nat) : cBits (n + 1) c = cBits n (cBit c) := by
 show fN (cBit c) (fun c => cBits n c) = _
 rw [fN_eq]
theorem cBits_lt : ∀ (n : Nat) {c : Nat}, c < 2 ^ 32 → cBits n c < 2 ^ 32
 | 0, _, h => h
 | n + 1, c, h => by
  rw [cBits_succ]
  exact cBits_lt n (cBit_lt h)
theorem cBytes_cons (b : Nat) (l : List Nat) (c : Nat) : cBytes (b :: l) c = cBytes l (cBits 8 (c ^^^ b)) := by
 show fN (cBits 8 (Nat.xor c b)) (fun c => cBytes l c) = _
 rw [fN_eq]
 rfl
theorem cBit_odd {c : Nat} (h : c % 2 = 1) : cBit c = c / 2 ^^^ 2197175160 := by
 have : Nat.beq (Nat.mod c 2) 1 = true := by rw [Nat.beq_eq]; exact h
 unfold cBit
 rw [this]
 rfl
theorem cBit_even {c : Nat} (h : ¬ c % 2 = 1) : cBit c = c / 2 := by
 have : Nat.beq (Nat.mod c 2) 1 = false := by
  cases hb : Nat.beq (Nat.mod c 2) 1 with
  | false => rfl
  | true => exact absurd (Nat.eq_of_beq_eq_true hb) h
 unfold cBit
 rw [this]
 rfl
set_option maxHeartbeats 4000000 in
set_option maxRecDepth 100000 in
theorem more_calls (b off n cp s : Nat) (l : List Nat) (hl : ∀ x ∈ l, x < 256) (hn : l.length = n) (hbig : n ≤ 9223372036854775806) (hs : s < 2 ^ 32) (w : World) (hc : ∀ j x, l[j]? = some x → w.cell? ⟨b, off + j, none⟩ = some (.int .u8 (x : Nat))) :
  Calls Tryz.prog 119 #[.int .u32 s, .slice (some ⟨b, off, none⟩) n cp] w fun e w' => e = .returned (.int .u32 ((4294967295 ^^^ cBytes l (4294967295 ^^^ s) : Nat) : Int)) ∧ w' = w := by
 have HC := Lib.hid hc
 have HN := Lib.hid hn
 have HL := Lib.hid hl
 have hmax : IntKind.u32.max = ((4294967295 : Nat) : Int) := by decide
 have h0 : ∀ s : Nat, s < 2 ^ 32 → bits .xor .u32 IntKind.u32.max (s : Int) = ((4294967295 ^^^ s : Nat) : Int) := fun s hs => by rw [hmax]; exact xor_u32 4294967295 s (by decide) hs
 have H0 := Lib.hid h0
 have h1 : 4294967295 ^^^ s < 2 ^ 32 := Nat.xor_lt_two_pow (by decide) hs
 clear hc hn hl h0 hmax
 go_enter Tryz.func119, Tryz.ntmps119
 go_wp2
 go_loop [5, 13] (fun c i => ∃ (k x : Nat), k ≤ n ∧ x < 2 ^ 32 ∧ c = .int .u32 x ∧ i = .int .i64 k ∧ Hid (cBytes (l.drop k) x = cBytes l (4294967295 ^^^ s))) (fun _ i => match i with | .int _ m => n - m.toNat | _ => 0)
 case atStart => exact ⟨0, 4294967295 ^^^ s, Nat.zero_le _, h1, by rw [H0.out s hs], rfl, Lib.hid rfl⟩
 case round =>
  obtain ⟨k, x, hk, hx, rfl, rfl, HX⟩ := hrel
  by_cases hlt : k < n
  · obtain ⟨v, hv⟩ : ∃ v, l[k]? = some v := ⟨_, List.getElem?_eq_getElem (by have := HN.out; omega)⟩
    have hv1 := HL.out v (List.mem_of_getElem? hv)
    have hcell := HC.out k v hv
    have hdrop : l.drop k = v :: l.drop (k + 1) := by
     have hkl : k < l.length := by have := HN.out; omega
     rw [List.drop_eq_getElem_cons hkl]
     rw [List.getElem?_eq_getElem hkl] at hv
     rw [Option.some.inj hv]
    have HD := Lib.hid hdrop
    have HV := Lib.hid hv
    clear hdrop hv
    have hb1 := cBits_lt 8 (Nat.xor_lt_two_pow hx (show v < 2 ^ 32 by omega))
    have hx1 : bits .xor .u32 (x : Int) (v : Int) = ((x ^^^ v : Nat) : Int) := xor_u32 x v hx (by omega)
    have HX1 := Lib.hid hx1
    clear hx1
    go_wp2
    go_loop [5, 21] (fun c i => ∃ (r y : Nat), r ≤ 8 ∧ y < 2 ^ 32 ∧ c = .int .u32 y ∧ i = .int .i64 r ∧ Hid (cBits (8 - r) y = cBits 8 (x ^^^ v))) (fun _ i => match i with | .int _ m => 8 - m.toNat | _ => 0)
    case atStart => exact ⟨0, x ^^^ v, Nat.zero_le _, Nat.xor_lt_two_pow hx (by omega), by rw [HX1.out], rfl, Lib.hid rfl⟩
    case round =>
     obtain ⟨r, y, hr, hy, rfl, rfl, HY⟩ := hrel
     by_cases hr8 : r < 8
     · have ha := and1_u32 y hy
       have hsucc : cBits (8 - r) y = cBits (8 - (r + 1)) (cBit y) := by
        rw [show 8 - r = (8 - (r + 1)) + 1 by omega, cBits_succ]
       have HS := Lib.hid hsucc
       have hcb := cBit_lt hy
       clear hsucc
       by_cases ho : y % 2 = 1
       · have c1 : ((bits .and .u32 (y : Int) 1) == 1) = true := by rw [ha, ho]; rfl
         have hbit := cBit_odd ho
         have hx2 : bits .xor .u32 ((y : Int) / 2) 2197175160 = ((cBit y : Nat) : Int) := by
          rw [hbit, show (y : Int) / 2 = ((y / 2 : Nat) : Int) by omega]
          exact xor_u32 (y / 2) 2197175160 (by omega) (by decide)
         have HA := Lib.hid ha
         have HB := Lib.hid hbit
         have H2 := Lib.hid hx2
         clear ha hbit hx2
         go_wp2
         go_round
         case rel => exact ⟨r + 1, cBit y, by omega, hcb, by rw [H2.out], by simp, Lib.hid (by rw [← HS.out]; exact HY.out)⟩
         case measure => simp; omega
       · have c1 : ((bits .and .u32 (y : Int) 1) == 1) = false := by
          rw [ha]
          have : y % 2 = 0 := by omega
          rw [this]
          rfl
         have hbit := cBit_even ho
         have hx2 : ((y : Int) / 2) = ((cBit y : Nat) : Int) := by
          rw [hbit]
          omega
         have HA := Lib.hid ha
         have HB := Lib.hid hbit
         have H2 := Lib.hid hx2
         clear ha hbit hx2
         go_wp2
         go_round
         case rel => exact ⟨r + 1, cBit y, by omega, hcb, by rw [H2.out], by simp, Lib.hid (by rw [← HS.out]; exact HY.out)⟩
         case measure => simp; omega
     · go_wp2
       go_round
       have hr8' : r = 8 := by omega
       subst hr8'
       case rel => exact ⟨k + 1, y, by omega, hy, rfl, by simp, Lib.hid (by
        have h2 := HX.out
        rw [HD.out, cBytes_cons, ← HY.out] at h2
        exact h2)⟩
       case measure => simp; omega
  · go_wp2
    go_ret
    have hkn : k = n := by omega
    subst hkn
    refine ⟨?_, rfl⟩
    have := HX.out
    rw [List.drop_of_length_le (by have := HN.out; omega)] at this
    rw [H0.out x hx, ← this]
    rfl
end Go.Ev
