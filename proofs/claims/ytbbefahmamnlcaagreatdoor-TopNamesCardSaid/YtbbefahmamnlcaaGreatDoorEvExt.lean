/- The reckoner is right: functions without a Go body that look bytes up. -/
import Derived.Test.YtbbefahmamnlcaaGreatDoorEv17
import Derived.Lib.BytesEntry
set_option linter.unusedVariables false
set_option linter.unusedSimpArgs false
set_option linter.unusedSectionVars false
namespace Go.Ev
open Go Go.RowKit
section
variable {E : List Ent} {P : Program} {w0 w : World} {h : Hp}
theorem u8_of {c d : Nat} (hc : c < 256) (hd : d < 256) : (UInt8.ofNat c == UInt8.ofNat d) = decide (c = d) := by
 by_cases he : c = d
 · subst he
   simp
 · have : UInt8.ofNat c ≠ UInt8.ofNat d := fun e => he (by
    have := congrArg UInt8.toNat e
    simp only [UInt8.toNat_ofNat'] at this
    omega)
   simp [this, he]
theorem idxB_eq {c : Nat} (hc : c < 256) : ∀ (l : List Nat) (i : Nat), (∀ x ∈ l, x < 256) → idxB c l i = if Lib.indexByte (l.map UInt8.ofNat) (UInt8.ofNat c) = -1 then -1 else Lib.indexByte (l.map UInt8.ofNat) (UInt8.ofNat c) + i
 | [], i, _ => rfl
 | a :: l, i, hl => by
  have ha := hl a List.mem_cons_self
  have ih := idxB_eq hc l (i + 1) (fun x hx => hl x (List.mem_cons_of_mem _ hx))
  have hge := Lib.indexByte_ge (l.map UInt8.ofNat) (UInt8.ofNat c)
  unfold idxB
  rw [List.map_cons]
  unfold Lib.indexByte
  rw [u8_of ha hc]
  by_cases he : a = c
  · subst he
    simp
  · simp only [he, decide_false, Bool.false_eq_true, if_false, ih]
    by_cases h1 : Lib.indexByte (l.map UInt8.ofNat) (UInt8.ofNat c) = -1
    · simp [h1]
    · have h2 : (Lib.indexByte (l.map UInt8.ofNat) (UInt8.ofNat c) == -1) = false := by simpa using h1
      rw [if_neg h1, h2]
      simp only [Bool.false_eq_true, if_false]
      rw [if_neg (by omega)]
      omega
theorem idxB_zero {c : Nat} (hc : c < 256) {l : List Nat} (hl : ∀ x ∈ l, x < 256) : idxB c l 0 = Lib.indexByte (l.map UInt8.ofNat) (UInt8.ofNat c) := by
 rw [idxB_eq hc l 0 hl]
 split
 · rename_i h1
   exact h1.symm
 · simp
theorem cntB_eq {c : Nat} (hc : c < 256) : ∀ (l : List Nat), (∀ x ∈ l, x < 256) → cntB c l = Lib.countByte (l.map UInt8.ofNat) (UInt8.ofNat c)
 | [], _ => rfl
 | a :: l, hl => by
  have ha := hl a List.mem_cons_self
  have ih := cntB_eq hc l (fun x hx => hl x (List.mem_cons_of_mem _ hx))
  unfold cntB Lib.countByte
  rw [List.map_cons, List.count_cons, u8_of ha hc, ih]
  unfold Lib.countByte
  by_cases he : a = c <;> simp [he] <;> omega
theorem byteL_ok (hr : Rep w0 E h w) {x : AV} {l : List Nat} {v : Value} (hx : byteL h x = some l) (hv : VV E x v) : (Extern.Bytes.bytesOf v).run P w = .ok (bytes l) w ∧ ∀ c ∈ l, c < 256 := by
 unfold byteL at hx
 split at hx
 · cases hx
   obtain ⟨rfl, h2⟩ := hv
   exact ⟨rfl, h2⟩
 · unfold cellsIn at hx
   split at hx
   · rename_i k o n cp _
     obtain ⟨b, c, hk, rfl, _⟩ := hv
     cases hg : h.get k with
     | none => simp [hg] at hx
     | some q =>
      cases hq : rowOf q with
      | none => simp [hg, hq] at hx
      | some cs =>
       simp only [hg, hq, Option.bind_some, Nat.mul_one] at hx
       cases hs : seg cs o n with
       | none => simp [hs] at hx
       | some m =>
        simp only [hs, Option.bind_some] at hx
        obtain ⟨vs, a1, a2, a3⟩ := range_at hr hk hg hq hs
        obtain ⟨a4, a5⟩ := u8s_ok a1 hx
        refine ⟨?_, a5⟩
        have hlen : l.length = n := by
         have := congrArg List.length a4
         rw [List.length_map] at this
         omega
        have hrun := Lib.run_loadBytesX (P := P) w (l.map fun (c : Nat) => (c : Int)) ⟨b, o, none⟩ .empty (fun j y hj => by
         rw [List.getElem?_map] at hj
         cases hc : l[j]? with
         | none => simp [hc] at hj
         | some d =>
          simp only [hc, Option.map_some, Option.some.injEq] at hj
          subst hj
          rw [Addr.add_mid]
          refine a3 j _ ?_
          rw [a4, List.getElem?_map, hc]
          rfl)
        rw [List.length_map, hlen] at hrun
        show (Extern.Bytes.loadBytes ⟨b, o, none⟩ n .empty).run P w = _
        rw [hrun]
        congr 1
        apply ByteArray.ext
        show (#[] : Array UInt8) ++ (Lib.bytesOf (l.map fun (c : Nat) => (c : Int))).toArray = (l.map UInt8.ofNat).toArray
        simp only [List.append_toArray, List.nil_append]
        congr 1
        unfold Lib.bytesOf
        rw [List.map_map]
        rfl
   · cases hx
theorem run_index_bytes {v : Value} {l : List Nat} {c : Nat} (hb : (Extern.Bytes.bytesOf v).run P w = .ok (bytes l) w) (hl : ∀ x ∈ l, x < 256) (hc : c < 256) : (Extern.BytealgIndexByte.indexByte #[v, .int .u8 (c : Nat)]).run P w = .ok (.int .i64 (idxB c l 0)) w := by
 have h1 := Lib.run_indexByteString (P := P) (bytes l) (c : Int) w
 have h2 : (Extern.BytealgIndexByte.indexByte #[v, .int .u8 (c : Nat)]).run P w = (Extern.BytealgIndexByte.indexByte #[.string (bytes l), .int .u8 (c : Nat)]).run P w := by
  show ((Extern.Bytes.bytesOf v) >>= _ : Sem Value).run P w = ((Extern.Bytes.bytesOf (.string (bytes l))) >>= _ : Sem Value).run P w
  rw [Sem.run_bind, Sem.run_bind, hb]
  rfl
 rw [h2, h1, idxB_zero hc hl]
 congr 2
theorem run_count_bytes {v : Value} {l : List Nat} {c : Nat} (hb : (Extern.Bytes.bytesOf v).run P w = .ok (bytes l) w) (hl : ∀ x ∈ l, x < 256) (hc : c < 256) : (Extern.BytealgCount.count #[v, .int .u8 (c : Nat)]).run P w = .ok (.int .i64 (cntB c l)) w := by
 have h1 := Lib.run_countString (P := P) (bytes l) (c : Int) w
 have h2 : (Extern.BytealgCount.count #[v, .int .u8 (c : Nat)]).run P w = (Extern.BytealgCount.count #[.string (bytes l), .int .u8 (c : Nat)]).run P w := by
  show ((Extern.Bytes.bytesOf v) >>= _ : Sem Value).run P w = ((Extern.Bytes.bytesOf (.string (bytes l))) >>= _ : Sem Value).run P w
  rw [Sem.run_bind, Sem.run_bind, hb]
  rfl
 rw [h2, h1, cntB_eq hc l hl]
 congr 2
/-- A function that looks for a byte, or counts it, is what evExt tells. -/
theorem ext12_ok {f k : Nat} {fn : Func} (hf : P.funcs[f]? = some fn) (hname : (fn.name == "runtime.NumGoroutine") = false) (hb : fn.body.isNone = true) (hn : Extern.findNext fn = none)
  (he : (k = 1 ∧ Extern.find fn = some Extern.BytealgIndexByte.indexByte) ∨ (k = 2 ∧ Extern.find fn = some Extern.BytealgCount.count)) {xs : List AV} {h : Hp} {y : AV} (hy : evExt k h xs = some y) {E : List Ent} {w : World} {vs : List Value} (hvs : All2 (VV E) xs vs) (hr : Rep w0 E h w) : CallDoes P w0 E f vs.toArray w y h := by
 unfold evExt at hy
 split at hy
 · rename_i x c
   split at hy
   · rename_i hc
     split at hy
     · rename_i l hl
       cases vs with
       | nil => exact hvs.elim
       | cons v vs =>
        cases vs with
        | nil => exact hvs.2.elim
        | cons u vs =>
         cases vs with
         | cons _ _ => exact hvs.2.2.elim
         | nil =>
          have hv := hvs.1
          have hu : u = .int .u8 (c : Nat) := hvs.2.1
          subst hu
          obtain ⟨hbo, hlt⟩ := byteL_ok (P := P) hr hl hv
          refine .inr ?_
          rcases he with ⟨rfl, he⟩ | ⟨rfl, he⟩
          · rw [show byteExt 1 c l = some (.v (.one (.i .i64 (idxB c l 0)))) from rfl] at hy
            cases hy
            refine ⟨_, ?_, rfl, hr⟩
            rw [run_callFunc_extern hf hname hb hn he, run_index_bytes hbo hlt hc]
            rfl
          · rw [show byteExt 2 c l = some (.v (.one (.i .i64 (cntB c l)))) from rfl] at hy
            cases hy
            refine ⟨_, ?_, rfl, hr⟩
            rw [run_callFunc_extern hf hname hb hn he, run_count_bytes hbo hlt hc]
            rfl
     · cases hy
   · cases hy
 · rename_i c k' o n cp
   split at hy
   · rename_i hk
     rcases he with ⟨rfl, _⟩ | ⟨rfl, _⟩
     · exact absurd hk.1 (by decide)
     · exact absurd hk.1 (by decide)
   · cases hy
 · cases hy
end
end Go.Ev
