/- The reckoner is right: functions without a Go body that look bytes up. -/
import Derived.Test.YtbmdocjeepnhmaaGreatDoorEw14
import Derived.Lib.BytesEntry
import Derived.Test.YtbmdocjeepnhmaaGreatDoorProg
import Derived.WalkKit
import Derived.Tactics
import Derived.Tactics2
import Derived.LoopTactic
import Derived.Laws.Pointers
import Derived.Laws.Entries
import Derived.Laws.BitsLemmas
import Derived.Lib.Hide
import Derived.Test.YtbmdocjeepnhmaaGreatDoorEwS
import Derived.Test.YtbmdocjeepnhmaaGreatDoorEwX
import Derived.KernelRfl
set_option linter.unusedVariables false
set_option linter.unusedSimpArgs false
set_option linter.unusedSectionVars false
namespace Go.Ev
open Go Go.RowKit
variable [Sy]
section
variable {E : List Ent} {P : Program} {w0 : Base} {w : World} {h : Hp}
theorem u8_of {c d : Nat} (hc : c < 256) (hd : d < 256) : (UInt8.ofNat c == UInt8.ofNat d) = decide (c = d) := by
 by_cases he : c = d
 · subst he
   simp
 · have : UInt8.ofNat c ≠ UInt8.ofNat d := fun e => he (by
    have := congrArg UInt8.toNat e
    simp only [UInt8.toNat_ofNat'] at this
    omega)
   simp [this, he]
theorem idxB_eq {c : Nat} (hc : c < 256) : ∀ (l : List Nat) (i : Nat), (∀ x ∈ l, x < 256) → idxB c l i = if Lib.indexByte (l.map UInt8.ofNat) (UInt8.ofNat c) = -1 then -1 else Lib.indexByte (l.map UInt8.ofNat) (UInt8.ofNat c) + i
 | [], i, _ => rfl
 | a :: l, i, hl => by
  have ha := hl a List.mem_cons_self
  have ih := idxB_eq hc l (i + 1) (fun x hx => hl x (List.mem_cons_of_mem _ hx))
  have hge := Lib.indexByte_ge (l.map UInt8.ofNat) (UInt8.ofNat c)
  unfold idxB
  rw [List.map_cons]
  unfold Lib.indexByte
  rw [u8_of ha hc]
  by_cases he : a = c
  · subst he
    simp
  · simp only [he, decide_false, Bool.false_eq_true, if_false, ih]
    by_cases h1 : Lib.indexByte (l.map UInt8.ofNat) (UInt8.ofNat c) = -1
    · simp [h1]
    · have h2 : (Lib.indexByte (l.map UInt8.ofNat) (UInt8.ofNat c) == -1) = false := by simpa using h1
      rw [if_neg h1, h2]
      simp only [Bool.false_eq_true, if_false]
      rw [if_neg (by omega)]
      omega
theorem idxB_zero {c : Nat} (hc : c < 256) {l : List Nat} (hl : ∀ x ∈ l, x < 256) : idxB c l 0 = Lib.indexByte (l.map UInt8.ofNat) (UInt8.ofNat c) := by
 rw [idxB_eq hc l 0 hl]
 split
 · rename_i h1
   exact h1.symm
 · simp
theorem cntB_eq {c : Nat} (hc : c < 256) : ∀ (l : List Nat), (∀ x ∈ l, x < 256) → cntB c l = Lib.countByte (l.map UInt8.ofNat) (UInt8.ofNat c)
 | [], _ => rfl
 | a :: l, hl => by
  have ha := hl a List.mem_cons_self
  have ih := cntB_eq hc l (fun x hx => hl x (List.mem_cons_of_mem _ hx))
  unfold cntB Lib.countByte
  rw [List.map_cons, List.count_cons, u8_of ha hc, ih]
  unfold Lib.countByte
  by_cases he : a = c <;> simp [he] <;> omega
theorem byteL_ok (hr : Rep w0 E h w) {x : AV} {l : List Nat} {v : Value} (hx : byteL h x = some l) (hv : VV E x v) : (Extern.Bytes.bytesOf v).run P w = .ok (bytes l) w ∧ ∀ c ∈ l, c < 256 := by
 unfold byteL at hx
 split at hx
 · cases hx
   obtain ⟨rfl, h2⟩ := hv
   exact ⟨rfl, h2⟩
 · cases hx
   have e1 : v = .slice none 0 0 := hv
   subst e1
   exact ⟨rfl, by simp⟩
 · cases hx
   obtain ⟨b, c, hk, e1⟩ := hv
   subst e1
   exact ⟨rfl, by simp⟩
 · unfold cellsIn at hx
   split at hx
   · rename_i k o n cp _ _ _
     obtain ⟨b, c, hk, rfl, _⟩ := hv
     cases hg : h.get k with
     | none => simp [hg] at hx
     | some q =>
      cases hq : rowOf q with
      | none => simp [hg, hq] at hx
      | some cs =>
       simp only [hg, hq, Option.bind_some, Nat.mul_one] at hx
       cases hs : seg cs o n with
       | none => simp [hs] at hx
       | some m =>
        simp only [hs, Option.bind_some] at hx
        obtain ⟨vs, a1, a2, a3⟩ := range_at hr hk hg hq hs
        obtain ⟨a4, a5⟩ := u8s_ok a1 hx
        refine ⟨?_, a5⟩
        have hlen : l.length = n := by
         have := congrArg List.length a4
         rw [List.length_map] at this
         omega
        have hrun := Lib.run_loadBytesX (P := P) w (l.map fun (c : Nat) => (c : Int)) ⟨b, o, none⟩ .empty (fun j y hj => by
         rw [List.getElem?_map] at hj
         cases hc : l[j]? with
         | none => simp [hc] at hj
         | some d =>
          simp only [hc, Option.map_some, Option.some.injEq] at hj
          subst hj
          rw [Addr.add_mid]
          refine a3 j _ ?_
          rw [a4, List.getElem?_map, hc]
          rfl)
        rw [List.length_map, hlen] at hrun
        show (Extern.Bytes.loadBytes ⟨b, o, none⟩ n .empty).run P w = _
        rw [hrun]
        congr 1
        apply ByteArray.ext
        show (#[] : Array UInt8) ++ (Lib.bytesOf (l.map fun (c : Nat) => (c : Int))).toArray = (l.map UInt8.ofNat).toArray
        simp only [List.append_toArray, List.nil_append]
        congr 1
        unfold Lib.bytesOf
        rw [List.map_map]
        rfl
   · cases hx
theorem run_index_bytes {v : Value} {l : List Nat} {c : Nat} (hb : (Extern.Bytes.bytesOf v).run P w = .ok (bytes l) w) (hl : ∀ x ∈ l, x < 256) (hc : c < 256) : (Extern.BytealgIndexByte.indexByte #[v, .int .u8 (c : Nat)]).run P w = .ok (.int .i64 (idxB c l 0)) w := by
 have h1 := Lib.run_indexByteString (P := P) (bytes l) (c : Int) w
 have h2 : (Extern.BytealgIndexByte.indexByte #[v, .int .u8 (c : Nat)]).run P w = (Extern.BytealgIndexByte.indexByte #[.string (bytes l), .int .u8 (c : Nat)]).run P w := by
  show ((Extern.Bytes.bytesOf v) >>= _ : Sem Value).run P w = ((Extern.Bytes.bytesOf (.string (bytes l))) >>= _ : Sem Value).run P w
  rw [Sem.run_bind, Sem.run_bind, hb]
  rfl
 rw [h2, h1, idxB_zero hc hl]
 congr 2
theorem run_count_bytes {v : Value} {l : List Nat} {c : Nat} (hb : (Extern.Bytes.bytesOf v).run P w = .ok (bytes l) w) (hl : ∀ x ∈ l, x < 256) (hc : c < 256) : (Extern.BytealgCount.count #[v, .int .u8 (c : Nat)]).run P w = .ok (.int .i64 (cntB c l)) w := by
 have h1 := Lib.run_countString (P := P) (bytes l) (c : Int) w
 have h2 : (Extern.BytealgCount.count #[v, .int .u8 (c : Nat)]).run P w = (Extern.BytealgCount.count #[.string (bytes l), .int .u8 (c : Nat)]).run P w := by
  show ((Extern.Bytes.bytesOf v) >>= _ : Sem Value).run P w = ((Extern.Bytes.bytesOf (.string (bytes l))) >>= _ : Sem Value).run P w
  rw [Sem.run_bind, Sem.run_bind, hb]
  rfl
 rw [h2, h1, cntB_eq hc l hl]
 congr 2
/-- A function that looks for a byte, or counts it, is what evExt tells. -/
theorem ext12_ok {f k : Nat} {fn : Func} (hf : P.funcs[f]? = some fn) (hname : (fn.name == "runtime.NumGoroutine") = false) (hb : fn.body.isNone = true) (hn : Extern.findNext fn = none)
  (he : (k = 1 ∧ Extern.find fn = some Extern.BytealgIndexByte.indexByte) ∨ (k = 2 ∧ Extern.find fn = some Extern.BytealgCount.count)) {xs : List AV} {h : Hp} {y : AV} (hy : evExt k h xs = some y) {E : List Ent} {w : World} {vs : List Value} (hvs : All2 (VV E) xs vs) (hr : Rep w0 E h w) : CallDoes P w0 E f vs.toArray w y h := by
 unfold evExt at hy
 split at hy
 · rename_i x c
   split at hy
   · rename_i hc
     split at hy
     · rename_i l hl
       cases vs with
       | nil => exact hvs.elim
       | cons v vs =>
        cases vs with
        | nil => exact hvs.2.elim
        | cons u vs =>
         cases vs with
         | cons _ _ => exact hvs.2.2.elim
         | nil =>
          have hv := hvs.1
          have hu : u = .int .u8 (c : Nat) := hvs.2.1
          subst hu
          obtain ⟨hbo, hlt⟩ := byteL_ok (P := P) hr hl hv
          refine .inr ?_
          rcases he with ⟨rfl, he⟩ | ⟨rfl, he⟩
          · rw [show byteExt 1 c l = some (.v (.one (.i .i64 (idxB c l 0)))) from rfl] at hy
            cases hy
            refine ⟨_, ?_, rfl, hr⟩
            rw [run_callFunc_extern hf hname hb hn he, run_index_bytes hbo hlt hc]
            rfl
          · rw [show byteExt 2 c l = some (.v (.one (.i .i64 (cntB c l)))) from rfl] at hy
            cases hy
            refine ⟨_, ?_, rfl, hr⟩
            rw [run_callFunc_extern hf hname hb hn he, run_count_bytes hbo hlt hc]
            rfl
     · cases hy
   · cases hy
 · rename_i c k' o n cp
   split at hy
   · rename_i hk
     rcases he with ⟨rfl, _⟩ | ⟨rfl, _⟩
     · exact absurd hk.1 (by decide)
     · exact absurd hk.1 (by decide)
   · cases hy
 · cases hy
end
end Go.Ev
namespace Go.Ev
open Go Go.RowKit Go.Proofs
theorem xor_u32 (a b : Nat) (ha : a < 2 ^ 32) (hb : b < 2 ^ 32) : bits .xor .u32 a b = ((a ^^^ b : Nat) : Int) := by
 have hx : a ^^^ b < 2 ^ 32 := Nat.xor_lt_two_pow ha hb
 simp only [bits, BitVec.ofInt_natCast, BitVec.toNat_xor, BitVec.toNat_ofNat]
 rw [show IntKind.u32.bits = 32 from rfl, Nat.mod_eq_of_lt ha, Nat.mod_eq_of_lt hb, IntKind.wrap_u32]
 omega
theorem and1_u32 (a : Nat) (ha : a < 2 ^ 32) : bits .and .u32 a 1 = ((a % 2 : Nat) : Int) := by
 simp only [bits]
 rw [show ((1 : Int)) = ((1 : Nat) : Int) from rfl]
 simp only [BitVec.ofInt_natCast, BitVec.toNat_and, BitVec.toNat_ofNat]
 rw [show IntKind.u32.bits = 32 from rfl, Nat.mod_eq_of_lt ha, Nat.mod_eq_of_lt (show 1 < 2 ^ 32 by decide), IntKind.wrap_u32, Nat.and_one_is_mod]
 omega
theorem cBit_lt {c : Nat} (h : c < 2 ^ 32) : cBit c < 2 ^ 32 := by
 unfold cBit
 cases Nat.beq (Nat.mod c 2) 1
 · show Nat.div c 2 < _
   have : Nat.div c 2 = c / 2 := rfl
   omega
 · show Nat.xor (Nat.div c 2) 2197175160 < _
   refine Nat.xor_lt_two_pow ?_ (by decide)
   have : Nat.div c 2 = c / 2 := rfl
   omega
theorem cBits_succ (n c : Nat) : cBits (n + 1) c = cBits n (cBit c) := by
 show fN (cBit c) (fun c => cBits n c) = _
 rw [fN_eq]
theorem cBits_lt : ∀ (n : Nat) {c : Nat}, c < 2 ^ 32 → cBits n c < 2 ^ 32
 | 0, _, h => h
 | n + 1, c, h => by
  rw [cBits_succ]
  exact cBits_lt n (cBit_lt h)
theorem cBytes_cons (b : Nat) (l : List Nat) (c : Nat) : cBytes (b :: l) c = cBytes l (cBits 8 (c ^^^ b)) := by
 show fN (cBits 8 (Nat.xor c b)) (fun c => cBytes l c) = _
 rw [fN_eq]
 rfl
theorem cBit_odd {c : Nat} (h : c % 2 = 1) : cBit c = c / 2 ^^^ 2197175160 := by
 have : Nat.beq (Nat.mod c 2) 1 = true := by rw [Nat.beq_eq]; exact h
 unfold cBit
 rw [this]
 rfl
theorem cBit_even {c : Nat} (h : ¬ c % 2 = 1) : cBit c = c / 2 := by
 have : Nat.beq (Nat.mod c 2) 1 = false := by
  cases hb : Nat.beq (Nat.mod c 2) 1 with
  | false => rfl
  | true => exact absurd (Nat.eq_of_beq_eq_true hb) h
 unfold cBit
 rw [this]
 rfl
set_option maxHeartbeats 4000000 in
set_option maxRecDepth 100000 in
theorem more_calls (b off n cp s : Nat) (l : List Nat) (hl : ∀ x ∈ l, x < 256) (hn : l.length = n) (hbig : n ≤ 9223372036854775806) (hs : s < 2 ^ 32) (w : World) (hc : ∀ j x, l[j]? = some x → w.cell? ⟨b, off + j, none⟩ = some (.int .u8 (x : Nat))) :
  Calls Tryz.prog 238 #[.int .u32 s, .slice (some ⟨b, off, none⟩) n cp] w fun e w' => e = .returned (.int .u32 ((4294967295 ^^^ cBytes l (4294967295 ^^^ s) : Nat) : Int)) ∧ w' = w := by
 have HC := Lib.hid hc
 have HN := Lib.hid hn
 have HL := Lib.hid hl
 have hmax : IntKind.u32.max = ((4294967295 : Nat) : Int) := by decide
 have h0 : ∀ s : Nat, s < 2 ^ 32 → bits .xor .u32 IntKind.u32.max (s : Int) = ((4294967295 ^^^ s : Nat) : Int) := fun s hs => by rw [hmax]; exact xor_u32 4294967295 s (by decide) hs
 have H0 := Lib.hid h0
 have h1 : 4294967295 ^^^ s < 2 ^ 32 := Nat.xor_lt_two_pow (by decide) hs
 clear hc hn hl h0 hmax
 go_enter Tryz.func238, Tryz.ntmps238
 go_wp2
 go_loop [5, 13] (fun c i => ∃ (k x : Nat), k ≤ n ∧ x < 2 ^ 32 ∧ c = .int .u32 x ∧ i = .int .i64 k ∧ Hid (cBytes (l.drop k) x = cBytes l (4294967295 ^^^ s))) (fun _ i => match i with | .int _ m => n - m.toNat | _ => 0)
 case atStart => exact ⟨0, 4294967295 ^^^ s, Nat.zero_le _, h1, by rw [H0.out s hs], rfl, Lib.hid rfl⟩
 case round =>
  obtain ⟨k, x, hk, hx, rfl, rfl, HX⟩ := hrel
  by_cases hlt : k < n
  · obtain ⟨v, hv⟩ : ∃ v, l[k]? = some v := ⟨_, List.getElem?_eq_getElem (by have := HN.out; omega)⟩
    have hv1 := HL.out v (List.mem_of_getElem? hv)
    have hcell := HC.out k v hv
    have hdrop : l.drop k = v :: l.drop (k + 1) := by
     have hkl : k < l.length := by have := HN.out; omega
     rw [List.drop_eq_getElem_cons hkl]
     rw [List.getElem?_eq_getElem hkl] at hv
     rw [Option.some.inj hv]
    have HD := Lib.hid hdrop
    have HV := Lib.hid hv
    clear hdrop hv
    have hb1 := cBits_lt 8 (Nat.xor_lt_two_pow hx (show v < 2 ^ 32 by omega))
    have hx1 : bits .xor .u32 (x : Int) (v : Int) = ((x ^^^ v : Nat) : Int) := xor_u32 x v hx (by omega)
    have HX1 := Lib.hid hx1
    clear hx1
    go_wp2
    go_loop [5, 21] (fun c i => ∃ (r y : Nat), r ≤ 8 ∧ y < 2 ^ 32 ∧ c = .int .u32 y ∧ i = .int .i64 r ∧ Hid (cBits (8 - r) y = cBits 8 (x ^^^ v))) (fun _ i => match i with | .int _ m => 8 - m.toNat | _ => 0)
    case atStart => exact ⟨0, x ^^^ v, Nat.zero_le _, Nat.xor_lt_two_pow hx (by omega), by rw [HX1.out], rfl, Lib.hid rfl⟩
    case round =>
     obtain ⟨r, y, hr, hy, rfl, rfl, HY⟩ := hrel
     by_cases hr8 : r < 8
     · have ha := and1_u32 y hy
       have hsucc : cBits (8 - r) y = cBits (8 - (r + 1)) (cBit y) := by
        rw [show 8 - r = (8 - (r + 1)) + 1 by omega, cBits_succ]
       have HS := Lib.hid hsucc
       have hcb := cBit_lt hy
       clear hsucc
       by_cases ho : y % 2 = 1
       · have c1 : ((bits .and .u32 (y : Int) 1) == 1) = true := by rw [ha, ho]; rfl
         have hbit := cBit_odd ho
         have hx2 : bits .xor .u32 ((y : Int) / 2) 2197175160 = ((cBit y : Nat) : Int) := by
          rw [hbit, show (y : Int) / 2 = ((y / 2 : Nat) : Int) by omega]
          exact xor_u32 (y / 2) 2197175160 (by omega) (by decide)
         have HA := Lib.hid ha
         have HB := Lib.hid hbit
         have H2 := Lib.hid hx2
         clear ha hbit hx2
         go_wp2
         go_round
         case rel => exact ⟨r + 1, cBit y, by omega, hcb, by rw [H2.out], by simp, Lib.hid (by rw [← HS.out]; exact HY.out)⟩
         case measure => simp; omega
       · have c1 : ((bits .and .u32 (y : Int) 1) == 1) = false := by
          rw [ha]
          have : y % 2 = 0 := by omega
          rw [this]
          rfl
         have hbit := cBit_even ho
         have hx2 : ((y : Int) / 2) = ((cBit y : Nat) : Int) := by
          rw [hbit]
          omega
         have HA := Lib.hid ha
         have HB := Lib.hid hbit
         have H2 := Lib.hid hx2
         clear ha hbit hx2
         go_wp2
         go_round
         case rel => exact ⟨r + 1, cBit y, by omega, hcb, by rw [H2.out], by simp, Lib.hid (by rw [← HS.out]; exact HY.out)⟩
         case measure => simp; omega
     · go_wp2
       go_round
       have hr8' : r = 8 := by omega
       subst hr8'
       case rel => exact ⟨k + 1, y, by omega, hy, rfl, by simp, Lib.hid (by
        have h2 := HX.out
        rw [HD.out, cBytes_cons, ← HY.out] at h2
        exact h2)⟩
       case measure => simp; omega
  · go_wp2
    go_ret
    have hkn : k = n := by omega
    subst hkn
    refine ⟨?_, rfl⟩
    have := HX.out
    rw [List.drop_of_length_le (by have := HN.out; omega)] at this
    rw [H0.out x hx, ← this]
    rfl
end Go.Ev
namespace Go.Ev
open Go Go.RowKit Go.Proofs
def extOf (k : Nat) (h : Hp) (xs : List AV) : Option (AV × Hp) := (evExt k h xs).map fun y => (y, h)
/-- The functions that are known by what they do. -/
def exB : CallT := fun f xs h => bif Nat.beq f 238 then extOf 3 h xs else bif Nat.beq f 274 then extOf 1 h xs else bif Nat.beq f 327 then extOf 1 h xs else bif Nat.beq f 319 then extOf 2 h xs else none
variable [Sy]
section
variable {w0 : Base}
theorem extOf_ok {k : Nat} {h h' : Hp} {xs : List AV} {y : AV} (hx : extOf k h xs = some (y, h')) : evExt k h xs = some y ∧ h' = h := by
 unfold extOf at hx
 cases he : evExt k h xs with
 | none => simp [he] at hx
 | some z =>
  simp only [he, Option.map_some, Option.some.injEq, Prod.mk.injEq] at hx
  exact ⟨by rw [hx.1], hx.2.symm⟩
theorem more_ok {xs : List AV} {h : Hp} {y : AV} (hy : evExt 3 h xs = some y) {E : List Ent} {w : World} {vs : List Value} (hvs : All2 (VV E) xs vs) (hr : Rep w0 E h w) : CallDoes Tryz.prog w0 E 238 vs.toArray w y h := by
 unfold evExt at hy
 split at hy
 · split at hy
   · split at hy
     · simp [byteExt] at hy
     · cases hy
   · cases hy
 · rename_i c k o n cp
   split at hy
   · rename_i hk
     split at hy
     · rename_i l hl
       cases hy
       cases vs with
       | nil => exact hvs.elim
       | cons v vs =>
        cases vs with
        | nil => exact hvs.2.elim
        | cons u vs =>
         cases vs with
         | cons _ _ => exact hvs.2.2.elim
         | nil =>
          have hv : v = .int .u32 (c : Nat) := hvs.1
          subst hv
          obtain ⟨b, cc, hk1, rfl, hcap⟩ := hvs.2.1
          unfold byteL cellsIn at hl
          simp only at hl
          cases hg : h.get k with
          | none => simp [hg] at hl
          | some q =>
           cases hq : rowOf q with
           | none => simp [hg, hq] at hl
           | some cs =>
            simp only [hg, hq, Option.bind_some, Nat.mul_one] at hl
            cases hs : seg cs o n with
            | none => simp [hs] at hl
            | some m =>
             simp only [hs, Option.bind_some] at hl
             obtain ⟨ws, a1, a2, a3⟩ := range_at hr hk1 hg hq hs
             obtain ⟨a4, a5⟩ := u8s_ok a1 hl
             have hlen : l.length = n := by
              have := congrArg List.length a4
              rw [List.length_map] at this
              omega
             · refine .inl ⟨?_, (more_calls b o n (capOf cc cp) c l a5 hlen (by omega) hk.2.1 w (fun j x hj => a3 j _ (by rw [a4, List.getElem?_map, hj]; rfl))).mono ?_⟩
               · simp only [callFunc, Sem.run_bind, run_program, Result.andThen_ok, Tryz.func238]
                 rfl
               · rintro e w' ⟨rfl, rfl⟩
                 exact ⟨_, rfl, E, Pre.refl E, hr, rfl⟩
     · cases hy
   · cases hy
 · cases hy
theorem names_ok : Tryz.prog.funcs.toList.all (fun fn => !(fn.name == "runtime.NumGoroutine")) = true := by kernel_rfl
theorem no_count (f : Nat) (fn : Func) (hf : Tryz.prog.funcs[f]? = some fn) : (fn.name == "runtime.NumGoroutine") = false := by
 have h1 := List.all_eq_true.1 names_ok fn (by rw [Array.mem_toList_iff]; exact Array.mem_of_getElem? hf)
 cases hb : fn.name == "runtime.NumGoroutine" with
 | false => rfl
 | true => rw [hb] at h1; cases h1
theorem follows : Tryz.prog.follows .mixedOrders = true := by kernel_rfl
theorem exB_ok : CallOk Tryz.prog w0 exB := by
 intro f xs h y h' hc E w vs hvs hr
 unfold exB at hc
 cases h1 : Nat.beq f 238 with
 | true =>
  obtain rfl := Nat.eq_of_beq_eq_true h1
  obtain ⟨h2, rfl⟩ := extOf_ok hc
  exact more_ok h2 hvs hr
 | false =>
  rw [h1, cond_false] at hc
  cases h2 : Nat.beq f 274 with
  | true =>
   obtain rfl := Nat.eq_of_beq_eq_true h2
   obtain ⟨h3, rfl⟩ := extOf_ok hc
   exact ext12_ok Tryz.func274 (by kernel_rfl) (by kernel_rfl) (by kernel_rfl) (.inl ⟨rfl, by kernel_rfl⟩) h3 hvs hr
  | false =>
   rw [h2, cond_false] at hc
   cases h3 : Nat.beq f 327 with
   | true =>
    obtain rfl := Nat.eq_of_beq_eq_true h3
    obtain ⟨h4, rfl⟩ := extOf_ok hc
    exact ext12_ok Tryz.func327 (by kernel_rfl) (by kernel_rfl) (by kernel_rfl) (.inl ⟨rfl, by kernel_rfl⟩) h4 hvs hr
   | false =>
    rw [h3, cond_false] at hc
    cases h4 : Nat.beq f 319 with
    | true =>
     obtain rfl := Nat.eq_of_beq_eq_true h4
     obtain ⟨h5, rfl⟩ := extOf_ok hc
     exact ext12_ok Tryz.func319 (by kernel_rfl) (by kernel_rfl) (by kernel_rfl) (.inr ⟨rfl, by kernel_rfl⟩) h5 hvs hr
    | false =>
     rw [h4] at hc
     cases hc
/-- What a run told of one call. -/
def memo (F : Nat) (X : List AV) (H : Hp) (r : AV × Hp) (ex : CallT) : CallT := fun f xs h => bif Nat.beq f F then (if xs = X ∧ h = H then some r else ex f xs h) else ex f xs h
theorem memo_ok {F : Nat} {X : List AV} {H : Hp} {r : AV × Hp} {ex : CallT} {K : Hk} {n : Nat} (h1 : HkOk Tryz.prog w0 K) (h2 : callG Tryz.prog K (evG Tryz.prog K n) F X H = some r) (h3 : CallOk Tryz.prog w0 ex) : CallOk Tryz.prog w0 (memo F X H r ex) := by
 intro f xs h y h' hc
 unfold memo at hc
 cases hb : Nat.beq f F with
 | false =>
  rw [hb] at hc
  exact h3 f xs h y h' hc
 | true =>
  obtain rfl := Nat.eq_of_beq_eq_true hb
  rw [hb, cond_true] at hc
  split at hc
  · rename_i hx
    obtain ⟨rfl, rfl⟩ := hx
    cases hc
    rw [callG_eq Tryz.prog K _ _ (fun f p c s => evG_eq Tryz.prog K n f p c s)] at h2
    exact callA_ok h1.ex no_count (evCode_ok follows h1 no_count n).1 f xs h y h' h2
  · exact h3 f xs h y h' hc
def rp0 : Fr → Oper → Option AV := fun _ _ => none
def lo0 : Nat → List Bool → St → Option (X × St) := fun _ _ _ => none
theorem rp0_ok : RpOk Tryz.prog rp0 := fun _ _ _ _ h => by cases h
theorem lo0_ok : LoOk Tryz.prog w0 lo0 := fun _ _ _ _ _ h => by cases h
/-- The plain hooks. -/
noncomputable def KB : Hk := ⟨exB, ruX Tryz.prog, rp0, lo0⟩
theorem KB_ok : HkOk Tryz.prog w0 KB := ⟨exB_ok, ruX_ok, rp0_ok, lo0_ok⟩
end
end Go.Ev
namespace Go.Ev
open Go Go.RowKit Go.Proofs
/-- A row: a call of which function, of what; where memory is read: at which name, which object; what it gives. Memory stays. -/
structure Xl where
 f : Nat
 xs : List AV
 at_ : Option (Nat × Nat)
 y : AV
def findX_ {α : Type} (f : Xl → Option α) : List Xl → Option α
 | [] => none
 | e :: l => match f e with
   | some r => some r
   | none => findX_ f l
def exT (tab : List Xl) (ex : CallT) : CallT := fun f xs h => match findX_ (fun e => bif Nat.beq f e.f then (if xs = e.xs then (match e.at_ with | none => some e.y | some p => if h.get p.1 = some (.y p.2) then some e.y else none) else none) else none) tab with
 | some y => some (y, h)
 | none => ex f xs h
variable [Sy]
section
variable {w0 : Base} {P : Program}
def XlOk (P : Program) (w0 : Base) (e : Xl) : Prop := ∀ (h : Hp), (∀ p, e.at_ = some p → h.get p.1 = some (Sy.o p.2)) → ∀ (E : List Ent) (w : World) (vs : List Value), All2 (VV E) (e.xs.map denV) vs → Rep w0 E h w → CallDoes P w0 E e.f vs.toArray w (denV e.y) h
theorem findX_ok_ {α : Type} {f : Xl → Option α} {r : α} : ∀ {l : List Xl}, findX_ f l = some r → ∃ e ∈ l, f e = some r
 | [], h => by cases h
 | e :: l, h => by
  unfold findX_ at h
  cases hf : f e with
  | some q =>
   simp only [hf] at h
   cases h
   exact ⟨e, List.mem_cons_self, hf⟩
  | none =>
   simp only [hf] at h
   obtain ⟨e', h1, h2⟩ := findX_ok_ h
   exact ⟨e', List.mem_cons_of_mem _ h1, h2⟩
theorem CallDoes.undenote {E : List Ent} {f : Nat} {vs : Array Value} {w : World} {y : AV} {h' : Hp} (h : CallDoes P w0 E f vs w (denV y) (denH h')) : CallDoes P w0 E f vs w y h' := by
 rcases h with ⟨h1, h2⟩ | ⟨v, h1, h2, h3⟩
 · refine .inl ⟨h1, h2.mono ?_⟩
   rintro e w' ⟨v, rfl, E', h3, h4, h5⟩
   exact ⟨v, rfl, E', h3, h4.undenH, (VV_den E' y v).2 h5⟩
 · exact .inr ⟨v, h1, (VV_den E y v).2 h2, h3.undenH⟩
theorem exT_ok {tab : List Xl} {ex : CallT} (ht : ∀ e ∈ tab, XlOk P w0 e) (hex : CallOk P w0 ex) : CallOk P w0 (exT tab ex) := by
 intro f xs h y h' hc E w vs hvs hr
 unfold exT at hc
 split at hc
 · rename_i y' hf
   cases hc
   obtain ⟨e, he, h1⟩ := findX_ok_ hf
   cases hb : Nat.beq f e.f with
   | false => simp [hb] at h1
   | true =>
    obtain rfl := Nat.eq_of_beq_eq_true hb
    rw [hb, cond_true] at h1
    split at h1
    · rename_i hx
      subst hx
      have hvs' : All2 (VV E) (e.xs.map denV) vs := (All2.map_left (VV_den E) _ _).1 hvs
      have go : (∀ p, e.at_ = some p → h.get p.1 = some (.y p.2)) → e.y = y → CallDoes P w0 E e.f vs.toArray w y h := fun hg hy => by
       subst hy
       exact CallDoes.undenote (ht e he (denH h) (fun p hp => get_den_y (hg p hp)) E w vs hvs' hr.den)
      split at h1
      · rename_i hn
        cases h1
        exact go (fun p hp => by rw [hn] at hp; cases hp) rfl
      · rename_i p hp
        split at h1
        · rename_i hg
          cases h1
          exact go (fun q hq => by rw [hp] at hq; cases hq; exact hg) rfl
        · cases h1
    · cases h1
 · exact hex f xs h y h' hc E w vs hvs hr
end
end Go.Ev
