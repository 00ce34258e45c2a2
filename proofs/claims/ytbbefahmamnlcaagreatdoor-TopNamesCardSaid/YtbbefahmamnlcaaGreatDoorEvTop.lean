/- The reckoner over this program. -/
import Derived.Test.YtbbefahmamnlcaaGreatDoorEvMore
import Derived.Test.YtbbefahmamnlcaaGreatDoorEvF3
import Derived.KernelRfl
set_option linter.unusedVariables false
set_option linter.unusedSimpArgs false
set_option linter.unusedSectionVars false
namespace Go.Ev
open Go Go.RowKit Go.Proofs
def extOf (k : Nat) (h : Hp) (xs : List AV) : Option (AV × Hp) := (evExt k h xs).map fun y => (y, h)
/-- The functions that are known by what they do. -/
def exB : CallT := fun f xs h => bif Nat.beq f 119 then extOf 3 h xs else bif Nat.beq f 233 then extOf 1 h xs else bif Nat.beq f 309 then extOf 1 h xs else bif Nat.beq f 301 then extOf 2 h xs else none
section
variable {w0 : World}
theorem extOf_ok {k : Nat} {h h' : Hp} {xs : List AV} {y : AV} (hx : extOf k h xs = some (y, h')) : evExt k h xs = some y ∧ h' = h := by
 unfold extOf at hx
 cases he : evExt k h xs with
 | none => simp [he] at hx
 | some z =>
  simp only [he, Option.map_some, Option.some.injEq, Prod.mk.injEq] at hx
  exact ⟨by rw [hx.1], hx.2.symm⟩
theorem more_ok {xs : List AV} {h : Hp} {y : AV} (hy : evExt 3 h xs = some y) {E : List Ent} {w : World} {vs : List Value} (hvs : All2 (VV E) xs vs) (hr : Rep w0 E h w) : CallDoes Tryz.prog w0 E 119 vs.toArray w y h := by
 unfold evExt at hy
 split at hy
 · split at hy
   · split at hy
     · simp [byteExt] at hy
     · cases hy
   · cases hy
 · rename_i c k o n cp
   split at hy
   · rename_i hk
     split at hy
     · rename_i l hl
       cases hy
       cases vs with
       | nil => exact hvs.elim
       | cons v vs =>
        cases vs with
        | nil => exact hvs.2.elim
        | cons u vs =>
         cases vs with
         | cons _ _ => exact hvs.2.2.elim
         | nil =>
          have hv : v = .int .u32 (c : Nat) := hvs.1
          subst hv
          obtain ⟨b, cc, hk1, rfl, hcap⟩ := hvs.2.1
          unfold byteL cellsIn at hl
          simp only at hl
          cases hg : h.get k with
          | none => simp [hg] at hl
          | some q =>
           cases hq : rowOf q with
           | none => simp [hg, hq] at hl
           | some cs =>
            simp only [hg, hq, Option.bind_some, Nat.mul_one] at hl
            cases hs : seg cs o n with
            | none => simp [hs] at hl
            | some m =>
             simp only [hs, Option.bind_some] at hl
             obtain ⟨ws, a1, a2, a3⟩ := range_at hr hk1 hg hq hs
             obtain ⟨a4, a5⟩ := u8s_ok a1 hl
             have hlen : l.length = n := by
              have := congrArg List.length a4
              rw [List.length_map] at this
              omega
             · refine .inl ⟨?_, (more_calls b o n (capOf cc cp) c l a5 hlen (by omega) hk.2.1 w (fun j x hj => a3 j _ (by rw [a4, List.getElem?_map, hj]; rfl))).mono ?_⟩
               · simp only [callFunc, Sem.run_bind, run_program, Result.andThen_ok, Tryz.func119]
                 rfl
               · rintro e w' ⟨rfl, rfl⟩
                 exact ⟨_, rfl, E, Pre.refl E, hr, rfl⟩
     · cases hy
   · cases hy
 · cases hy
theorem names_ok : Tryz.prog.funcs.toList.all (fun fn => !(fn.name == "runtime.NumGoroutine")) = true := by kernel_rfl
theorem no_count (f : Nat) (fn : Func) (hf : Tryz.prog.funcs[f]? = some fn) : (fn.name == "runtime.NumGoroutine") = false := by
 have h1 := List.all_eq_true.1 names_ok fn (by rw [Array.mem_toList_iff]; exact Array.mem_of_getElem? hf)
 cases hb : fn.name == "runtime.NumGoroutine" with
 | false => rfl
 | true => rw [hb] at h1; cases h1
theorem follows : Tryz.prog.follows .mixedOrders = true := by kernel_rfl
theorem exB_ok : CallOk Tryz.prog w0 exB := by
 intro f xs h y h' hc E w vs hvs hr
 unfold exB at hc
 cases h1 : Nat.beq f 119 with
 | true =>
  obtain rfl := Nat.eq_of_beq_eq_true h1
  obtain ⟨h2, rfl⟩ := extOf_ok hc
  exact more_ok h2 hvs hr
 | false =>
  rw [h1, cond_false] at hc
  cases h2 : Nat.beq f 233 with
  | true =>
   obtain rfl := Nat.eq_of_beq_eq_true h2
   obtain ⟨h3, rfl⟩ := extOf_ok hc
   exact ext12_ok Tryz.func233 (by kernel_rfl) (by kernel_rfl) (by kernel_rfl) (.inl ⟨rfl, by kernel_rfl⟩) h3 hvs hr
  | false =>
   rw [h2, cond_false] at hc
   cases h3 : Nat.beq f 309 with
   | true =>
    obtain rfl := Nat.eq_of_beq_eq_true h3
    obtain ⟨h4, rfl⟩ := extOf_ok hc
    exact ext12_ok Tryz.func309 (by kernel_rfl) (by kernel_rfl) (by kernel_rfl) (.inl ⟨rfl, by kernel_rfl⟩) h4 hvs hr
   | false =>
    rw [h3, cond_false] at hc
    cases h4 : Nat.beq f 301 with
    | true =>
     obtain rfl := Nat.eq_of_beq_eq_true h4
     obtain ⟨h5, rfl⟩ := extOf_ok hc
     exact ext12_ok Tryz.func301 (by kernel_rfl) (by kernel_rfl) (by kernel_rfl) (.inr ⟨rfl, by kernel_rfl⟩) h5 hvs hr
    | false =>
     rw [h4] at hc
     cases hc
/-- What a run told of one call. -/
def memo (F : Nat) (X : List AV) (H : Hp) (r : AV × Hp) (ex : CallT) : CallT := fun f xs h => bif Nat.beq f F then (if xs = X ∧ h = H then some r else ex f xs h) else ex f xs h
theorem memo_ok {F : Nat} {X : List AV} {H : Hp} {r : AV × Hp} {ex ex' : CallT} {n : Nat} (h1 : CallOk Tryz.prog w0 ex') (h2 : callG Tryz.prog ex' (evG Tryz.prog ex' n) F X H = some r) (h3 : CallOk Tryz.prog w0 ex) : CallOk Tryz.prog w0 (memo F X H r ex) := by
 intro f xs h y h' hc
 unfold memo at hc
 cases hb : Nat.beq f F with
 | false =>
  rw [hb] at hc
  exact h3 f xs h y h' hc
 | true =>
  obtain rfl := Nat.eq_of_beq_eq_true hb
  rw [hb, cond_true] at hc
  split at hc
  · rename_i hx
    obtain ⟨rfl, rfl⟩ := hx
    cases hc
    rw [callG_eq Tryz.prog ex' _ _ (fun c s => evG_eq Tryz.prog ex' n c s)] at h2
    exact callA_ok h1 no_count (evCode_ok follows h1 no_count n).1 f xs h y h' h2
  · exact h3 f xs h y h' hc
end
end Go.Ev
