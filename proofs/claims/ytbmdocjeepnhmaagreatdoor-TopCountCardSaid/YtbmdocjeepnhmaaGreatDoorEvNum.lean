/- Number and Text at numbers below 73: closed runs; a call that makes nothing that is kept, over any memory. -/
import Derived.Test.YtbmdocjeepnhmaaGreatDoorEvExt
set_option linter.unusedVariables false
set_option linter.unusedSimpArgs false
set_option linter.unusedSectionVars false
namespace Go.Ev
open Go Go.RowKit Go.Proofs
set_option maxRecDepth 1000000
/-- A number below 100, in digits. -/
def txt (v : Nat) : List Nat := bif Nat.blt v 10 then [48 + v] else [48 + v / 10, 48 + v % 10]
def hp0 : Hp := ⟨.lf none, 0⟩
def isNum (v : Nat) (r : Option (AV × Hp)) : Bool := match r with
 | some (.tup [.one (.i .u64 (.ofNat n)), .one (.b true)], _) => Nat.beq n v
 | _ => false
def isTxt (v : Nat) (r : Option (AV × Hp)) : Bool := match r with
 | some (.v (.one (.s l)), _) => eqL l (txt v)
 | _ => false
theorem num_all : (List.range 73).all (fun v => isNum v (callG Tryz.prog KB (evG Tryz.prog KB 300) 285 [.v (.one (.s (txt v)))] hp0)) = true := by kernel_rfl
theorem txt_all : (List.range 73).all (fun v => isTxt v (callG Tryz.prog KB (evG Tryz.prog KB 300) 286 [.v (.one (.i .u64 (.ofNat v)))] hp0)) = true := by kernel_rfl
theorem text_all : (List.range 73).all (fun v => isTxt v (callG Tryz.prog KB (evG Tryz.prog KB 300) 16 [.v (.one (.i .u64 (.ofNat v)))] hp0)) = true := by kernel_rfl
variable [Sy]
theorem num_at {v : Nat} (hv : v < 73) : ∃ h, callG Tryz.prog KB (evG Tryz.prog KB 300) 285 [.v (.one (.s (txt v)))] hp0 = some (.tup [.one (.i .u64 (.ofNat v)), .one (.b true)], h) := by
 have h1 := List.all_eq_true.1 num_all v (List.mem_range.2 hv)
 unfold isNum at h1
 split at h1
 · rename_i n h hc
   have := Nat.eq_of_beq_eq_true h1
   subst this
   exact ⟨h, hc⟩
 · cases h1
theorem txt_at {v : Nat} (hv : v < 73) : ∃ h, callG Tryz.prog KB (evG Tryz.prog KB 300) 286 [.v (.one (.i .u64 (.ofNat v)))] hp0 = some (.v (.one (.s (txt v))), h) := by
 have h1 := List.all_eq_true.1 txt_all v (List.mem_range.2 hv)
 unfold isTxt at h1
 split at h1
 · rename_i l h hc
   rw [eqL_iff] at h1
   subst h1
   exact ⟨h, hc⟩
 · cases h1
theorem text_at {v : Nat} (hv : v < 73) : ∃ h, callG Tryz.prog KB (evG Tryz.prog KB 300) 16 [.v (.one (.i .u64 (.ofNat v)))] hp0 = some (.v (.one (.s (txt v))), h) := by
 have h1 := List.all_eq_true.1 text_all v (List.mem_range.2 hv)
 unfold isTxt at h1
 split at h1
 · rename_i l h hc
   rw [eqL_iff] at h1
   subst h1
   exact ⟨h, hc⟩
 · cases h1
/-- Values without names. -/
def plain1 : A1 → Bool
 | .b _ | .i _ _ | .s _ | .nilp | .nils | .nilm | .nili | .nilf | .f _ => true
 | _ => false
def plain2 : A2 → Bool
 | .one x => plain1 x
 | .agg l => l.all plain1
def plainV : AV → Bool
 | .v x => plain2 x
 | .tup l => l.all plain2
theorem V1.plain {E E' : List Ent} {x : A1} {v : Value} (hp : plain1 x = true) (h : V1 E x v) : V1 E' x v := by
 cases x <;> first | exact h | cases hp
theorem All2.imp_mem {α β : Type} {R R' : α → β → Prop} : ∀ {l : List α} {m : List β}, (∀ a b, a ∈ l → R a b → R' a b) → All2 R l m → All2 R' l m
 | [], [], _, _ => trivial
 | a :: l, b :: m, hr, h => ⟨hr a b List.mem_cons_self h.1, All2.imp_mem (fun a b ha => hr a b (List.mem_cons_of_mem _ ha)) h.2⟩
theorem V2.plain {E E' : List Ent} {x : A2} {v : Value} (hp : plain2 x = true) (h : V2 E x v) : V2 E' x v := by
 cases x with
 | one x => exact V1.plain hp h
 | agg l =>
  obtain ⟨cs, h1, h2⟩ := h
  exact ⟨cs, All2.imp_mem (fun a b ha hab => V1.plain (List.all_eq_true.1 hp a ha) hab) h1, h2⟩
theorem VV.plain {E E' : List Ent} {x : AV} {v : Value} (hp : plainV x = true) (h : VV E x v) : VV E' x v := by
 cases x with
 | v x => exact V2.plain hp h
 | tup l =>
  obtain ⟨cs, h1, h2⟩ := h
  exact ⟨cs, All2.imp_mem (fun a b ha hab => V2.plain (List.all_eq_true.1 hp a ha) hab) h1, h2⟩
theorem rep_start (w : World) : Rep w [] hp0 w where
 below := Below.refl _ _
 len := rfl
 bound := Nat.zero_le _
 obj := fun k o hk _ => absurd hk (Nat.not_lt_zero k)
 free := fun k _ _ => Tr.get_lf D k
 sep := fun k k' o o' b c c' hk _ _ _ _ _ => absurd hk (Nat.not_lt_zero k)
 old := fun k b c hk => by simp at hk
/-- A call of values without names that tells such a one: the memory that is told of stays. -/
theorem plain_call {w0 w : World} {E : List Ent} {h h' : Hp} {f n : Nat} {xs : List AV} {y : AV} {vs : List Value} (hr : Rep w0 E h w) (hvs : All2 (VV E) xs vs) (hx : xs.all plainV = true) (hy : plainV y = true)
  (hc : callG Tryz.prog KB (evG Tryz.prog KB n) f xs hp0 = some (y, h')) : CallDoes Tryz.prog w0 E f vs.toArray w y h := by
 rw [callG_eq Tryz.prog KB _ _ (fun f p c s => evG_eq Tryz.prog KB n f p c s)] at hc
 have hk : HkOk Tryz.prog w KB := KB_ok
 have hvs' : All2 (VV []) xs vs := All2.imp_mem (fun a b ha hab => VV.plain (List.all_eq_true.1 hx a ha) hab) hvs
 rcases callA_ok hk.ex no_count (evCode_ok follows hk no_count n).1 f xs hp0 y h' hc [] w vs hvs' (rep_start w) with ⟨h1, h2⟩ | ⟨v, h1, h2, h3⟩
 · refine .inl ⟨h1, h2.mono ?_⟩
   rintro e w' ⟨v, rfl, E', _, h4, h5⟩
   exact ⟨v, rfl, E, Pre.refl E, hr.move (hr.below.trans (h4.below.mono hr.below.size)) h4.below.size (fun k o b c hk ho he => h4.below.block b (hr.old k b c he).2), VV.plain hy h5⟩
 · exact .inr ⟨v, h1, VV.plain hy h2, hr⟩
end Go.Ev
