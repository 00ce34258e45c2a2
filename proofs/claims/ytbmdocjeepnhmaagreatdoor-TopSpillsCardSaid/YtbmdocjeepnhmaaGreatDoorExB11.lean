/- A call that makes nothing that is kept, over any memory; Number and Text at numbers below 1008. -/
import Derived.Test.YtbmdocjeepnhmaaGreatDoorExB9
import Derived.Test.YtbmdocjeepnhmaaGreatDoorExN0
import Derived.Test.YtbmdocjeepnhmaaGreatDoorExN1
import Derived.Test.YtbmdocjeepnhmaaGreatDoorExN2
import Derived.Test.YtbmdocjeepnhmaaGreatDoorExN3
import Derived.Test.YtbmdocjeepnhmaaGreatDoorExB10
import Derived.Test.YtbmdocjeepnhmaaGreatDoorExB6
import Derived.Shelf.Spec.SlicesInsert
import Derived.Shelf.Spec.SlicesInsertGrow
import Derived.Laws.StructEq
import Derived.Tactics
import Derived.Tactics2
import Derived.StillTactics
import Derived.Laws.AppendOwn
import Derived.Laws.Rows
import Derived.Laws.Tables
import Derived.Laws.NewBlocks
import Derived.Laws.Unary
import Derived.Laws.NewFold
import Derived.Laws.Alloc2
import Derived.Laws.Cells
import Derived.Laws.Pointers
import Derived.Laws.Entries
import Derived.Laws.World
import Derived.Laws.Sem
import Derived.Laws.Slices
import Derived.Laws.Small
import Derived.Scope
import Derived.FnLit
import Derived.LoopTactic
import Derived.LoopN
import Derived.Laws.IdiomRangeMap
import Derived.Shelf.Abstract
import Derived.BigCall
import Derived.BigGuard
import Derived.WalkKit
set_option linter.unusedVariables false
set_option linter.unusedSimpArgs false
set_option linter.unusedSectionVars false
namespace Go.Ev
open Go Go.RowKit Go.Proofs
theorem num4_all {v : Nat} (h : v < 1008) : isNum4 v (callG Tryz.prog KB (evG Tryz.prog KB 300) 285 [.v (.one (.s (dec4 v)))] hp0) = true := by
 have : v < 126 ∨ (126 ≤ v ∧ v < 252) ∨ (252 ≤ v ∧ v < 378) ∨ (378 ≤ v ∧ v < 504) ∨ (504 ≤ v ∧ v < 630) ∨ (630 ≤ v ∧ v < 756) ∨ (756 ≤ v ∧ v < 882) ∨ (882 ≤ v ∧ v < 1008) := by omega
 rcases this with h | ⟨g, h⟩ | ⟨g, h⟩ | ⟨g, h⟩ | ⟨g, h⟩ | ⟨g, h⟩ | ⟨g, h⟩ | ⟨g, h⟩
 · exact List.all_eq_true.1 num4_0 v (List.mem_range'_1.2 ⟨by omega, by omega⟩)
 · exact List.all_eq_true.1 num4_1 v (List.mem_range'_1.2 ⟨by omega, by omega⟩)
 · exact List.all_eq_true.1 num4_2 v (List.mem_range'_1.2 ⟨by omega, by omega⟩)
 · exact List.all_eq_true.1 num4_3 v (List.mem_range'_1.2 ⟨by omega, by omega⟩)
 · exact List.all_eq_true.1 num4_4 v (List.mem_range'_1.2 ⟨by omega, by omega⟩)
 · exact List.all_eq_true.1 num4_5 v (List.mem_range'_1.2 ⟨by omega, by omega⟩)
 · exact List.all_eq_true.1 num4_6 v (List.mem_range'_1.2 ⟨by omega, by omega⟩)
 · exact List.all_eq_true.1 num4_7 v (List.mem_range'_1.2 ⟨by omega, by omega⟩)
theorem text4_all {v : Nat} (h : v < 1008) : isTxt4 v (callG Tryz.prog KB (evG Tryz.prog KB 300) 16 [.v (.one (.i .u64 (.ofNat v)))] hp0) = true := by
 have : v < 126 ∨ (126 ≤ v ∧ v < 252) ∨ (252 ≤ v ∧ v < 378) ∨ (378 ≤ v ∧ v < 504) ∨ (504 ≤ v ∧ v < 630) ∨ (630 ≤ v ∧ v < 756) ∨ (756 ≤ v ∧ v < 882) ∨ (882 ≤ v ∧ v < 1008) := by omega
 rcases this with h | ⟨g, h⟩ | ⟨g, h⟩ | ⟨g, h⟩ | ⟨g, h⟩ | ⟨g, h⟩ | ⟨g, h⟩ | ⟨g, h⟩
 · exact List.all_eq_true.1 text4_0 v (List.mem_range'_1.2 ⟨by omega, by omega⟩)
 · exact List.all_eq_true.1 text4_1 v (List.mem_range'_1.2 ⟨by omega, by omega⟩)
 · exact List.all_eq_true.1 text4_2 v (List.mem_range'_1.2 ⟨by omega, by omega⟩)
 · exact List.all_eq_true.1 text4_3 v (List.mem_range'_1.2 ⟨by omega, by omega⟩)
 · exact List.all_eq_true.1 text4_4 v (List.mem_range'_1.2 ⟨by omega, by omega⟩)
 · exact List.all_eq_true.1 text4_5 v (List.mem_range'_1.2 ⟨by omega, by omega⟩)
 · exact List.all_eq_true.1 text4_6 v (List.mem_range'_1.2 ⟨by omega, by omega⟩)
 · exact List.all_eq_true.1 text4_7 v (List.mem_range'_1.2 ⟨by omega, by omega⟩)
variable [Sy]
theorem num_at {v : Nat} (hv : v < 1008) : ∃ h, callG Tryz.prog KB (evG Tryz.prog KB 300) 285 [.v (.one (.s (dec4 v)))] hp0 = some (.tup [.one (.i .u64 (.ofNat v)), .one (.b true)], h) := by
 have h1 := num4_all hv
 unfold isNum4 at h1
 split at h1
 · rename_i n h hc
   have := Nat.eq_of_beq_eq_true h1
   subst this
   exact ⟨h, hc⟩
 · cases h1
theorem text_at {v : Nat} (hv : v < 1008) : ∃ h, callG Tryz.prog KB (evG Tryz.prog KB 300) 16 [.v (.one (.i .u64 (.ofNat v)))] hp0 = some (.v (.one (.s (dec4 v))), h) := by
 have h1 := text4_all hv
 unfold isTxt4 at h1
 split at h1
 · rename_i l h hc
   rw [eqL_iff] at h1
   subst h1
   exact ⟨h, hc⟩
 · cases h1
/-- Values without names. -/
def plain1 : A1 → Bool
 | .b _ | .i _ _ | .s _ | .nilp | .nils | .nilm | .nili | .nilf | .f _ => true
 | _ => false
def plain2 : A2 → Bool
 | .one x => plain1 x
 | .agg l => l.all plain1
def plainV : AV → Bool
 | .v x => plain2 x
 | .tup l => l.all plain2
theorem V1.plain {E E' : List Ent} {x : A1} {v : Value} (hp : plain1 x = true) (h : V1 E x v) : V1 E' x v := by
 cases x <;> first | exact h | cases hp
theorem All2.imp_mem {α β : Type} {R R' : α → β → Prop} : ∀ {l : List α} {m : List β}, (∀ a b, a ∈ l → R a b → R' a b) → All2 R l m → All2 R' l m
 | [], [], _, _ => trivial
 | a :: l, b :: m, hr, h => ⟨hr a b List.mem_cons_self h.1, All2.imp_mem (fun a b ha => hr a b (List.mem_cons_of_mem _ ha)) h.2⟩
theorem V2.plain {E E' : List Ent} {x : A2} {v : Value} (hp : plain2 x = true) (h : V2 E x v) : V2 E' x v := by
 cases x with
 | one x => exact V1.plain hp h
 | agg l =>
  obtain ⟨cs, h1, h2⟩ := h
  exact ⟨cs, All2.imp_mem (fun a b ha hab => V1.plain (List.all_eq_true.1 hp a ha) hab) h1, h2⟩
theorem VV.plain {E E' : List Ent} {x : AV} {v : Value} (hp : plainV x = true) (h : VV E x v) : VV E' x v := by
 cases x with
 | v x => exact V2.plain hp h
 | tup l =>
  obtain ⟨cs, h1, h2⟩ := h
  exact ⟨cs, All2.imp_mem (fun a b ha hab => V2.plain (List.all_eq_true.1 hp a ha) hab) h1, h2⟩
theorem rep_start (w : World) : Rep (Base.all w) [] hp0 w where
 below := Kept.refl _
 len := rfl
 bound := Nat.zero_le _
 obj := fun k o hk _ => absurd hk (Nat.not_lt_zero k)
 free := fun k _ _ => Tr.get_lf D k
 sep := fun k k' o o' b c c' hk _ _ _ _ _ => absurd hk (Nat.not_lt_zero k)
 old := fun k o b c hk _ _ => absurd hk (Nat.not_lt_zero k)
/-- A call of values without names that tells such a one: the memory that is told of stays. -/
theorem plain_call {w0 : Base} {w : World} {E : List Ent} {h h' : Hp} {f n : Nat} {xs : List AV} {y : AV} {vs : List Value} (hr : Rep w0 E h w) (hvs : All2 (VV E) xs vs) (hx : xs.all plainV = true) (hy : plainV y = true)
  (hc : callG Tryz.prog KB (evG Tryz.prog KB n) f xs hp0 = some (y, h')) : CallDoes Tryz.prog w0 E f vs.toArray w y h := by
 rw [callG_eq Tryz.prog KB _ _ (fun f p c s => evG_eq Tryz.prog KB n f p c s)] at hc
 have hk : HkOk Tryz.prog (Base.all w) KB := KB_ok
 have hvs' : All2 (VV []) xs vs := All2.imp_mem (fun a b ha hab => VV.plain (List.all_eq_true.1 hx a ha) hab) hvs
 rcases callA_ok hk.ex no_count (evCode_ok follows hk no_count n).1 f xs hp0 y h' hc [] w vs hvs' (rep_start w) with ⟨h1, h2⟩ | ⟨v, h1, h2, h3⟩
 · refine .inl ⟨h1, h2.mono ?_⟩
   rintro e w' ⟨v, rfl, E', _, h4, h5⟩
   exact ⟨v, rfl, E, Pre.refl E, hr.move (hr.below.then h4.below) h4.below.size (fun k o b c hk ho he => h4.below.block b (hr.old k o b c hk ho he).2), VV.plain hy h5⟩
 · exact .inr ⟨v, h1, VV.plain hy h2, hr⟩
end Go.Ev
namespace Go.Ev
open Go Go.RowKit Go.Proofs
section
variable {D : D2} {K : Kd} {q : Nat → Nat}
theorem one_arg {S : Sy} {E : List Ent} {x : AV} {vs : List Value} (h : All2 (@VV S E) [x] vs) : ∃ v, vs = [v] ∧ @VV S E x v := by
 cases vs with
 | nil => exact h.elim
 | cons v vs =>
  cases vs with
  | nil => exact ⟨v, rfl, h.1⟩
  | cons _ _ => exact h.2.elim
theorem isLen_ok {l : Lin} {d : Nat} (h : isLen l = some d) : l.val D = (D.n d : Nat) := by
 unfold isLen at h
 rcases bif2 h with ⟨h1, h⟩ | ⟨_, h⟩
 · have e := Option.some.inj h
   rw [← e, Lin.eq_ok h1]
   simp [Lin.val, D2.n]
 · obtain ⟨h1, h⟩ := bif1 h
   have e := Option.some.inj h
   rw [← e, Lin.eq_ok h1]
   simp [Lin.val, D2.n]
theorem lenOfT_ok {d : Nat} (h : Nat.ble d 1 = true) : (lenOfT d).val D = (D.n d : Nat) := by
 have := Nat.le_of_ble_eq_true h
 rcases d with _ | _ | d
 · simp [lenOfT, Lin.val, D2.n]
 · show Lin.val D ⟨0, 0, 1, 0, 0⟩ = _
   simp [Lin.val, D2.n]
 · omega
theorem str_dig (d : Nat) : strB D q [.dig d] = dec4 (D.n d) := by
 show dec4 (D.n d) ++ [] = _
 rw [List.append_nil]
theorem exD_ok (hK : KdOk K D) {w0 : Base} (hT : TabB w0) {f : Nat} {xs : List AV} {y : AV} (hx : exD K f xs = some y) {h : Hp} {E : List Ent} {w : World} {vs : List Value}
  (hvs : All2 (@VV (syW D q) E) xs vs) (hr : @Rep (syW D q) w0 E h w) : @CallDoes (syW D q) Tryz.prog w0 E f vs.toArray w y h := by
 letI := syW D q
 unfold exD at hx
 split at hx
 · rename_i x
   have hn : ∀ d, D.n d < 1008 := fun d => by have := D.nle d; omega
   have hvs' : All2 (VV E) [dV D q (ov x)] vs := (All2.map_left (VV_den E) [ov x] vs).1 hvs
   have hrd : Rep w0 E (dH D q h) w := Rep.deep hr
   split at hx
   · rename_i l hu
     obtain ⟨d, hd, hx⟩ := bind1 hx
     obtain ⟨a, ha, hx⟩ := map1 hx
     have e1 : dV D q (ov x) = ov (.i .u64 (.ofNat (D.n d))) := by
      show ov (dW D q x) = _
      rw [(view_ok (D := D) (q := q) hu).1]
      show ov (.i .u64 (l.val D)) = _
      rw [isLen_ok hd]
      rfl
     have e2 : dV D q y = ov (.s (dec4 (D.n d))) := by
      rw [← hx]
      show ov (dW D q a) = _
      rw [back_ok (D := D) (q := q) ha, ← str_dig (q := q)]
      rfl
     rw [e1] at hvs'
     obtain ⟨h', hc⟩ := text_at (hn d)
     refine CallDoes.undeep ?_
     show CallDoes Tryz.prog w0 E 16 vs.toArray w (dV D q y) (dH D q h)
     rw [e2]
     exact plain_call hrd hvs' rfl rfl hc
   · rename_i l hu
     obtain ⟨d, hd, hx⟩ := bind1 hx
     obtain ⟨a, ha, hx⟩ := map1 hx
     have e1 : dV D q (ov x) = ov (.i .i64 (D.n d : Nat)) := by
      show ov (dW D q x) = _
      rw [(view_ok (D := D) (q := q) hu).1]
      show ov (.i .i64 (l.val D)) = _
      rw [isLen_ok hd]
     have e2 : dV D q y = ov (.s (dec4 (D.n d))) := by
      rw [← hx]
      show ov (dW D q a) = _
      rw [back_ok (D := D) (q := q) ha, ← str_dig (q := q)]
      rfl
     rw [e1] at hvs'
     obtain ⟨v, rfl, hv⟩ := one_arg hvs'
     have hv : v = .int .i64 (D.n d : Nat) := hv
     refine CallDoes.undeep ?_
     show CallDoes Tryz.prog w0 E 72 [v].toArray w (dV D q y) (dH D q h)
     rw [e2, hv]
     exact itoa_ok hT hrd (by have := hn d; omega)
   · rename_i d hu
     obtain ⟨a, ha, hx⟩ := map1 hx
     obtain ⟨u1, u2⟩ := view_ok (D := D) (q := q) hu
     have hd : Nat.ble d 1 = true := (wfS_cons u2).1
     have e1 : dV D q (ov x) = ov (.s (dec4 (D.n d))) := by
      show ov (dW D q x) = _
      rw [u1, ← str_dig (q := q)]
      rfl
     have e2 : dV D q y = .tup [.one (.i .u64 (.ofNat (D.n d))), .one (.b true)] := by
      rw [← hx]
      show AV.tup [.one (dW D q a), .one (.b true)] = _
      rw [back_ok (D := D) (q := q) ha]
      show AV.tup [.one (.i .u64 ((lenOfT d).val D)), .one (.b true)] = _
      rw [lenOfT_ok hd]
      rfl
     rw [e1] at hvs'
     obtain ⟨h', hc⟩ := num_at (hn d)
     refine CallDoes.undeep ?_
     show CallDoes Tryz.prog w0 E 285 vs.toArray w (dV D q y) (dH D q h)
     rw [e2]
     exact plain_call hrd hvs' rfl rfl hc
   · cases hx
 · cases hx
/-- Letters' calls. -/
theorem exW_ok (hK : KdOk K D) {tab : List (List Sym)} (ht : ∀ l ∈ tab, wfS K l = true) {w0 : Base} (hT : TabB w0) {f : Nat} {xs : List AV} {h : Hp} {y : AV} (hx : exW K tab f xs h = some y) {E : List Ent} {w : World} {vs : List Value}
  (hvs : All2 (@VV (syW D (sumOf D tab)) E) xs vs) (hr : @Rep (syW D (sumOf D tab)) w0 E h w) : @CallDoes (syW D (sumOf D tab)) Tryz.prog w0 E f vs.toArray w y h := by
 unfold exW at hx
 split at hx
 · rename_i v he
   have e := Option.some.inj hx
   subst e
   exact call_deep (@exB_ok (syW D (sumOf D tab)) w0) (exE_key hK ht he) hvs hr
 · exact exD_ok hK hT hx hvs hr
end
end Go.Ev
namespace Go.Proofs
open Go Go.Shelf
def Tryz.lays21_ren : Go.Shelf.Ren := ⟨fun | 21 => 215 | 27 => 259 | 28 => 260 | 35 => 287 | 39 => 297 | n => n, fun | 22 => 40 | 3 => 3 | 4 => 4 | 0 => 0 | n => n, fun | n => n⟩
theorem Tryz.lays21 : Go.Proofs.Lays2.n21 Tryz.prog Tryz.lays21_ren where
  mixed := by kernel_rfl
  f21 := Tryz.func215.trans (congrArg some (by kernel_rfl))
  f27 := Tryz.func259.trans (congrArg some (by kernel_rfl))
  f28 := Tryz.func260.trans (congrArg some (by kernel_rfl))
  f35 := Tryz.func287.trans (congrArg some (by kernel_rfl))
  f39 := Tryz.func297.trans (congrArg some (by kernel_rfl))
  t0 := Tryz.underlying0
  a0 := Tryz.isAgg0
  z0 := Tryz.sizeOf0
  v0 := Tryz.zeroValue0
  t3 := Tryz.underlying3
  a3 := Tryz.isAgg3
  z3 := Tryz.sizeOf3
  v3 := Tryz.zeroValue3
  t4 := Tryz.underlying4
  a4 := Tryz.isAgg4
  z4 := Tryz.sizeOf4
  v4 := Tryz.zeroValue4
  t22 := Tryz.underlying40
  a22 := Tryz.isAgg40
  z22 := Tryz.sizeOf40
  v22 := Tryz.zeroValue40
  i3 := by kernel_rfl
end Go.Proofs
namespace Go.Ev
open Go Go.RowKit Go.Proofs Go.Shelf
def is3 : AO → Bool
 | .row 3 _ _ => true
 | .cells 3 _ => true
 | _ => false
def exIns (h : Hp) (xs : List AV) : Option (AV × Hp) := match xs with
 | [.v (.one (.sl k 0 n (.un 0))), .v (.one (.i .i64 0)), .v (.one (.sl m o 1 c))] => match h.get k, cellsIn h 1 (.v (.one (.sl m o 1 c))) with
   | some (.row 3 1 l), some [x] => if Nat.ble 1 n ∧ Nat.ble n l.length ∧ Nat.beq k m = false ∧ Nat.blt h.n 2048 ∧ Nat.ble n 100000 ∧ (h.get m).any is3 then some (.v (.one (.sl h.n 0 (n + 1) (.un 0))), (h.del k).new (.row 3 1 (x :: l.take n))) else none
   | _, _ => none
 | _ => none
variable [Sy]
section
variable {E : List Ent} {w0 : Base} {w w' : World} {h : Hp}
/-- A new block behind the others. -/
theorem Rep.fresh (hr : Rep w0 E h w) {c : Nat} {o' : AO} (hn : h.n < 2 ^ D) (hb : Kept w0 w') (hs : w.heap.size ≤ w'.heap.size) (hm : ∀ j, j < w.heap.size → w'.heap[j]? = w.heap[j]?) (hs2 : w.heap.size < w'.heap.size)
  (hi : Is (E ++ [.blk w.heap.size c]) c w'.heap[w.heap.size]? o') : Rep w0 (E ++ [.blk w.heap.size c]) (h.new o') w' := by
 have hmv : Rep w0 E h w' := hr.move hb hs (fun j q b' c' hj hq hb' => hm b' (hr.old j q b' c' hj hq hb').2)
 refine hmv.grow (e := .blk w.heap.size c) (o := o') hn (OK.of_is (last_new hr _) hi) ?_
 intro b' c' hbc
 injection hbc with e6 e7
 subst e6
 refine ⟨hr.below.new, hs2, fun j q c9 hj hq hb' => ?_⟩
 have := (hr.old j q _ c9 hj hq hb').2
 omega
theorem overV_at {l news : List Value} {o : Nat} (h : o + news.length ≤ l.length) : (overV l o news).length = l.length := by
 unfold overV
 simp only [List.length_append, List.length_take, List.length_drop]
 omega
theorem over_two {l olds : List Value} {x : Value} (h : olds.length + 1 ≤ l.length) : overV (overV l 1 olds) 0 [x] = x :: olds ++ l.drop (olds.length + 1) := by
 have h1 : (l.take 1).length = 1 := by rw [List.length_take]; omega
 cases l with
 | nil => simp at h
 | cons a m => simp [overV, Nat.add_comm 1]
theorem over_two' {l olds : List Value} {x : Value} (h : olds.length + 1 ≤ l.length) : overV (overV l 0 [x]) 1 olds = x :: olds ++ l.drop (olds.length + 1) := by
 cases l with
 | nil => simp at h
 | cons a m => simp [overV, Nat.add_comm 1]
theorem fr0 {n : Nat} {fr : Nat × Nat} (h : FrOk 3 n fr) : fr = (0, 0) := by
 rcases h with h | h
 · exact absurd h.2 (by decide)
 · exact h
theorem not_frozen {b o : Nat} {cs : Array Value} {t : TypeId} (h : w.heap[b]? = some (.cells cs t (0, 0))) : w.frozen? ⟨b, o, none⟩ = false := by
 simp [World.frozen?, h]
theorem enters215 (xs : Array Value) (w : World) : (callFunc 215 xs).run Tryz.prog w = .ok (.enter 215 xs) w := by
 have hf : Tryz.prog.funcs[215]? = some Tryz.f215 := Tryz.func215
 have hng := no_count 215 Tryz.f215 hf
 have hb : Tryz.f215.body.isNone = false := by kernel_rfl
 simp only [callFunc, Sem.run_bind, run_program, Result.andThen_ok, hf, hng, Bool.false_eq_true, if_false, hb, Sem.run_pure]
theorem ins_ok {xs : List AV} {y : AV} {h' : Hp} (hx : exIns h xs = some (y, h')) {vs : List Value} (hvs : All2 (VV E) xs vs) (hr : Rep w0 E h w) : CallDoes Tryz.prog w0 E 215 vs.toArray w y h' := by
 unfold exIns at hx
 split at hx
 · rename_i k n m o c
   split at hx
   · rename_i l x hg hcx
     split at hx
     · rename_i hc
       obtain ⟨c1, c2, c3, c4, c5, c6⟩ := hc
       have c1 := Nat.le_of_ble_eq_true c1
       have c2 := Nat.le_of_ble_eq_true c2
       have c4 : h.n < 2 ^ D := Nat.le_of_ble_eq_true c4
       have c5 := Nat.le_of_ble_eq_true c5
       have hkm : k ≠ m := fun e => by subst e; rw [Nat.beq_refl] at c3; cases c3
       injection hx with hx
       injection hx with hx1 hx2
       subst hx1
       subst hx2
       match vs, hvs with
       | [v1, v2, v3], hvs =>
        obtain ⟨h1, h2, h3, _⟩ := hvs
        have e2 : v2 = .int .i64 0 := h2
        subst e2
        obtain ⟨b2, cc2, news, hk2, hv3, hnv, hnl, hnews⟩ := cells_in hr h3 hcx
        subst hv3
        obtain ⟨b, cap, hk, hv1, hle⟩ := h1
        have hv1 : v1 = .slice (some ⟨b, 0, none⟩) n (cap - 0) := hv1
        rw [Nat.sub_zero] at hv1
        subst hv1
        have hle : n ≤ cap := by simp only [capOf] at hle; omega
        obtain ⟨cs, fr, g1, g2, g3, g4, g5⟩ := (hr.obj k _ (lt_of_get hr hk) hg).is hk
        obtain rfl := fr0 g2
        have g3 : cs.size = cap := by omega
        have hlen : l.length ≤ cs.size := by
         have := g5.length
         rw [List.length_take] at this
         have h9 : cs.toList.length = cs.size := Array.length_toList
         omega
        have hcl : (cs.toList.take n).length = n := by rw [List.length_take, Array.length_toList]; omega
        have hold : All2 (V1 E) (l.take n) (cs.toList.take n) := by
         have := g5.take n
         rwa [List.take_take, Nat.min_eq_left c2] at this
        have hcs : ∀ j v, (cs.toList.take n)[j]? = some v → w.cell? ⟨b, 0 + j, none⟩ = some v := by
         intro j v hj
         rw [cell_eq g1, Nat.zero_add, ← Array.getElem?_toList]
         rw [List.getElem?_take] at hj
         split at hj
         · exact hj
         · cases hj
        have h1c : ∀ v ∈ cs.toList.take n, v.oneCell' = true := fun v hv => by
         obtain ⟨x, _, hx⟩ := hold.mem v hv
         exact V1.oneCell x v hx
        have h1v : ∀ v ∈ news, v.oneCell' = true := fun v hv => by
         obtain ⟨x, _, hx⟩ := hnv.mem v hv
         exact V1.oneCell x v hx
        have hnl1 : news.length = 1 := by omega
        have hnews' : ∀ j v, news[j]? = some v → w.cell? ⟨b2, o + j, none⟩ = some v := fun j v hj => by
         have := hnews j v hj
         rwa [Addr.add_mid] at this
        have hlt := hr.old k _ b cap (lt_of_get hr hk) hg hk
        have hmax : cap ≤ 9223372036854775807 := by
         have : maxLen ≤ 9223372036854775807 := by decide
         omega
        -- the other's block
        obtain ⟨q2, hq2, hrow2⟩ : ∃ q, h.get m = some q ∧ ∃ l2, rowOf q = some l2 := by
         unfold cellsIn at hcx
         simp only at hcx
         cases hgm : h.get m with
         | none => simp [hgm] at hcx
         | some q =>
          cases hl2 : rowOf q with
          | none => simp [hgm, hl2] at hcx
          | some l2 => exact ⟨q, rfl, l2, hl2⟩
        obtain ⟨l2, hl2⟩ := hrow2
        obtain ⟨cs2, f1⟩ : ∃ cs2, w.heap[b2]? = some (.cells cs2 3 (0, 0)) := by
         have h9 := (hr.obj m q2 (lt_of_get hr hk2) hq2).is hk2
         rw [hq2] at c6
         cases q2 with
         | row t z l2 =>
          have : t = 3 := by
           unfold is3 at c6
           simp only [Option.any_some] at c6
           split at c6
           · rename_i heq; injection heq
           · rename_i heq; cases heq
           · cases c6
          subst this
          obtain ⟨cs2, fr2, f1, f2, _⟩ := h9
          obtain rfl := fr0 f2
          exact ⟨cs2, f1⟩
         | cells t l2 =>
          have : t = 3 := by
           unfold is3 at c6
           simp only [Option.any_some] at c6
           split at c6
           · rename_i heq; cases heq
           · rename_i heq; injection heq
           · cases c6
          subst this
          obtain ⟨cs2, fr2, f1, f2, _⟩ := h9
          obtain rfl := fr0 f2
          exact ⟨cs2, f1⟩
         | _ => cases c6
        have hbb : b2 ≠ b := fun e => by
         subst e
         exact hkm (hr.sep k m _ _ _ _ _ (lt_of_get hr hk) (lt_of_get hr hk2) hg hq2 hk hk2)
        refine .inl ⟨enters215 _ _, ?_⟩
        obtain ⟨nv, rfl⟩ : ∃ v, news = [v] := List.length_eq_one_iff.1 hnl1
        have hall : ∀ (F : List Ent), All2 (V1 F) [x] [nv] → All2 (V1 F) (l.take n) (cs.toList.take n) → ∀ (rest : List Value), All2 (V1 F) (x :: l.take n) ((nv :: cs.toList.take n ++ rest).take (x :: l.take n).length) := by
         intro F a1 a2 rest
         have e1 : (x :: l.take n).length = (nv :: cs.toList.take n).length := by rw [List.length_cons, List.length_cons, a2.length]
         rw [e1, List.take_left]
         exact ⟨a1.1, a2⟩
        by_cases hroom : n + 1 ≤ cap
        · have hcall := Any2.slices_Insert_int_shift Tryz.lays21 b 0 n cap 0 b2 o 1 (capOf cc2 c) (cs.toList.take n) [nv] w c1 (by decide) hroom hmax hbb hcl hnl1 hcs
           (fun j hj => by rw [cell_eq g1, Nat.zero_add, Array.getElem?_eq_getElem (by omega)]; rfl) (fun j hj => not_frozen g1) hnews' h1c h1v 3 3 cs2.size cs.size (by simp [World.shape?, f1]) (by simp [World.shape?, g1]) (by omega) (not_frozen f1) (not_frozen f1)
          refine Calls.mono hcall ?_
          rintro e w' ⟨rfl, rfl⟩
          obtain ⟨ca, a1, a2, a3⟩ := setCells_row (cs.toList.take n) 1 w.drew cs g1 (by omega)
          obtain ⟨cb, b1, b2', b3⟩ := setCells_row [nv] 0 (w.drew.setCells b 1 (cs.toList.take n)) ca a1 (by rw [a2]; simp; omega)
          have hfin : cb.toList = nv :: cs.toList.take n ++ cs.toList.drop (n + 1) := by
           rw [b3, a3, over_two (by rw [hcl, Array.length_toList]; omega), hcl]
          refine ⟨_, rfl, E ++ [.blk b cap], Pre.one E _, hr.renew (o' := .row 3 1 (x :: l.take n)) hk hg c4 (below_setCells hlt.1 _ _ _ (below_setCells hlt.1 _ _ _ hr.below.drew)) (by rw [setCells_size, setCells_size]; exact Nat.le_refl _) (fun j hj => by rw [setCells_far b _ _ _ j hj, setCells_far b _ _ _ j hj]; rfl) ?_, ?_⟩
          · refine ⟨cb, (0, 0), b1, .inr rfl, by omega, g4, ?_⟩
            rw [hfin]
            exact hall _ (hnv.imp (V1.ext (Ext.one E _))) (hold.imp (V1.ext (Ext.one E _))) _
          · exact ⟨b, cap, last_new hr _, rfl, by simp [capOf]; omega⟩
        · have hcall := Any2.slices_Insert_int_grow Tryz.lays21 b 0 n cap 0 b2 o 1 (capOf cc2 c) (cs.toList.take n) [nv] w c1 (by decide) hle (by omega) (by omega) hcl hnl1 hcs hnews' h1c h1v
          refine Calls.mono hcall ?_
          rintro e w' ⟨rfl, rfl⟩
          have hcap : n + 1 ≤ grownCap w (n + 1) cap 3 := grownCap_ge w _ _ _
          have hcm : grownCap w (n + 1) cap 3 ≤ maxLen := grownCap_le_maxLen w _ _ _ (by simp only [maxLen]; omega)
          have hnp : ¬ w0.pr w.heap.size := hr.below.new
          have hzr : ∀ m, (Builtin.zeroCells (Value.int .i64 0).cells m).toList = List.replicate m (Value.int .i64 0) := fun m => zeros_eq _ rfl m
          generalize hA : (((cs.toList.take n).take 0).toArray ++ Builtin.zeroCells (Value.int .i64 0).cells (n + 1 - 0) ++ Builtin.zeroCells (Value.int .i64 0).cells (grownCap w (n + 1) cap (Tryz.lays21_ren.t 3) - (n + 1))) = arr
          have hsz : arr.size = grownCap w (n + 1) cap 3 := by
           have h1 : arr.toList = List.replicate (n + 1) (Value.int .i64 0) ++ List.replicate (grownCap w (n + 1) cap 3 - (n + 1)) (Value.int .i64 0) := by
            rw [← hA, Array.toList_append, Array.toList_append, hzr, hzr, List.take_zero]
            rfl
           have h2 := congrArg List.length h1
           rw [Array.length_toList, List.length_append, List.length_replicate, List.length_replicate] at h2
           omega
          have hasz : (w.alloc (.cells arr 3)).heap.size = w.heap.size + 1 := by
           show (w.heap.push _).size = _
           rw [Array.size_push]
          have hA0 : ((w.alloc (.cells arr 3)).drew).heap[w.heap.size]? = some (.cells arr 3 (0, 0)) := heap_alloc_new w _
          obtain ⟨ca, a1, a2, a3⟩ := setCells_row [nv] 0 (w.alloc (.cells arr 3)).drew arr hA0 (by simp; omega)
          obtain ⟨cb, b1, b2', b3⟩ := setCells_row (cs.toList.take n) 1 (((w.alloc (.cells arr 3)).drew.setCells w.heap.size 0 [nv]).drew) ca a1 (by rw [a2, hcl]; omega)
          have hfin : cb.toList = nv :: cs.toList.take n ++ arr.toList.drop (n + 1) := by
           rw [b3, a3, over_two' (by rw [hcl, Array.length_toList]; omega), hcl]
          have hkn := lt_of_get hr hk
          refine ⟨_, rfl, E ++ [.blk w.heap.size (grownCap w (n + 1) cap 3)], Pre.one E _, (hr.del hkn).fresh (o' := .row 3 1 (x :: l.take n)) c4
           (below_setCells hnp _ _ _ (below_setCells hnp _ _ _ (hr.below.alloc _).drew).drew) ?_ ?_ ?_ ?_, ?_⟩
          · rw [setCells_size]
            show w.heap.size ≤ (World.setCells _ _ _ _).heap.size
            rw [setCells_size]
            show w.heap.size ≤ (w.alloc (.cells arr 3)).heap.size
            rw [hasz]
            exact Nat.le_succ _
          · intro j hj
            rw [setCells_far _ _ _ _ j (by omega)]
            show (World.setCells _ _ _ _).heap[j]? = _
            rw [setCells_far _ _ _ _ j (by omega)]
            exact Below.heap_alloc w _ j hj
          · rw [setCells_size]
            show w.heap.size < (World.setCells _ _ _ _).heap.size
            rw [setCells_size]
            show w.heap.size < (w.alloc (.cells arr 3)).heap.size
            rw [hasz]
            exact Nat.lt_succ_self _
          · refine ⟨cb, (0, 0), b1, .inr rfl, by omega, hcm, ?_⟩
            rw [hfin]
            exact hall _ (hnv.imp (V1.ext (Ext.one E _))) (hold.imp (V1.ext (Ext.one E _))) _
          · exact ⟨w.heap.size, grownCap w (n + 1) cap 3, last_new hr _, rfl, by simp [capOf]; omega⟩
     · cases hx
   · cases hx
 · cases hx
end
end Go.Ev
namespace Go.Ev
open Go Go.RowKit Go.Proofs
def eqI' : Int → Int → Bool
 | .ofNat m, .ofNat n => Nat.beq m n
 | .negSucc m, .negSucc n => Nat.beq m n
 | _, _ => false
def eqP3 : AV → AV → Option Bool
 | .v (.agg [.b p, .i .i64 m, .i .i64 n]), .v (.agg [.b p', .i .i64 m', .i .i64 n']) => some ((p == p') && eqI' m m' && eqI' n n')
 | _, _ => none
def ruAgg (A : Fr) (o : Oper) : Option (AV × List U) := match o.op with
 | .binOp op 231 x y _ => match evA A x, evA A y with
   | some a, some b => match eqP3 a b with
     | some r => match op with
       | .eql => some (.v (.one (.b r)), [])
       | .neq => some (.v (.one (.b (!r))), [])
       | _ => none
     | none => none
   | _, _ => none
 | _ => none
theorem eqI'_eq : ∀ (a b : Int), eqI' a b = (a == b)
 | .ofNat m, .ofNat n => by
  cases h : Nat.beq m n with
  | true =>
   have := Nat.eq_of_beq_eq_true h
   subst this
   rw [eqI', h]
   exact (beq_self_eq_true _).symm
  | false =>
   rw [eqI', h]
   symm
   rw [beq_eq_false_iff_ne]
   intro e
   have e : m = n := Int.ofNat.inj e
   rw [e, Nat.beq_refl] at h
   cases h
 | .negSucc m, .negSucc n => by
  cases h : Nat.beq m n with
  | true =>
   have := Nat.eq_of_beq_eq_true h
   subst this
   rw [eqI', h]
   exact (beq_self_eq_true _).symm
  | false =>
   rw [eqI', h]
   symm
   rw [beq_eq_false_iff_ne]
   intro e
   have e : m = n := Int.negSucc.inj e
   rw [e, Nat.beq_refl] at h
   cases h
 | .ofNat m, .negSucc n => by
  show false = _
  symm
  rw [beq_eq_false_iff_ne]
  exact fun e => nomatch e
 | .negSucc m, .ofNat n => by
  show false = _
  symm
  rw [beq_eq_false_iff_ne]
  exact fun e => nomatch e
theorem eq231 (p p' : Bool) (m n m' n' : Int) (w : World) : (Op.equalIn 10000 231 (.agg #[.bool p, .int .i64 m, .int .i64 n]) (.agg #[.bool p', .int .i64 m', .int .i64 n'])).run Tryz.prog w = .ok (p == p' && m == m' && n == n') w := by
 have u3 := Tryz.underlying3
 have a3 := Tryz.isAgg3
 have z3 := Tryz.sizeOf3
 have u4 := Tryz.underlying4
 have a4 := Tryz.isAgg4
 have z4 := Tryz.sizeOf4
 have hS : Tryz.prog.underlying 231 = some (.struct (Tryz.prog.fieldsOf 231)) := by kernel_rfl
 have hp : Tryz.prog.stoodInHeld 231 = false := by kernel_rfl
 rw [show (10000 : Nat) = 9999 + 1 from rfl, run_equalIn_agg w 9999 231 _ _ hS hp]
 simp only [Program.fieldsOf, Tryz.underlying231]
 go_simp
 by_cases h1 : p = p' <;> by_cases h2 : m = m' <;> by_cases h3 : n = n' <;> simp [h1, h2, h3]
theorem eqG231 : Tryz.prog.eqGuardType Tryz.prog.depth 231 = false := by kernel_rfl
variable [Sy]
theorem agg3 {E : List Ent} {p : Bool} {m n : Int} {v : Value} (h : VV E (.v (.agg [.b p, .i .i64 m, .i .i64 n])) v) : v = .agg #[.bool p, .int .i64 m, .int .i64 n] := by
 obtain ⟨cs, h1, h2⟩ := h
 cases cs with
 | nil => exact h1.elim
 | cons a cs =>
  cases cs with
  | nil => exact h1.2.elim
  | cons b cs =>
   cases cs with
   | nil => exact h1.2.2.elim
   | cons c cs =>
    cases cs with
    | cons _ _ => exact h1.2.2.2.elim
    | nil =>
     have e1 : a = .bool p := h1.1
     have e2 : b = .int .i64 m := h1.2.1
     have e3 : c = .int .i64 n := h1.2.2.1
     rw [h2, e1, e2, e3]
theorem ruAgg_ok {A : Fr} {n : Nat} {h : Hp} {o : Oper} {v : AV} {us : List U} (hx : ruAgg A o = some (v, us)) {w0 : Base} {E : List Ent} {a : Act} {w : World} (ha : AR E A n a) (hr : Rep w0 E h w) : Turns Tryz.prog w0 E a w o v (apU h us) := by
 unfold ruAgg at hx
 split at hx
 · rename_i op x y c ho
   split at hx
   · rename_i p q h1 h2
     split at hx
     · rename_i r hr3
       unfold eqP3 at hr3
       split at hr3
       · rename_i p m n p' m' n'
         have e := Option.some.inj hr3
         have v1 := agg3 (evA_ok ha x _ h1)
         have v2 := agg3 (evA_ok ha y _ h2)
         have key : ∀ w, (Op.equalIn 10000 231 (a.eval x) (a.eval y)).run Tryz.prog w = .ok r w := fun w => by
          rw [v1, v2, eq231, ← e, eqI'_eq, eqI'_eq]
         split at hx
         · have e2 := Option.some.inj hx
           injection e2 with e3 e4
           subst e3; subst e4
           refine ⟨E, w, .bool r, Pre.refl E, hr, rfl, .inl ?_⟩
           have k2 := key w
           rw [v1, v2] at k2
           simp only [execOp, ho, v1, v2, Sem.run_bind, run_eqGuard_agg w _ _ _ _ _ _ eqG231, Result.andThen_ok, run_eql_struct, k2, Sem.run_pure]
         · have e2 := Option.some.inj hx
           injection e2 with e3 e4
           subst e3; subst e4
           refine ⟨E, w, .bool (!r), Pre.refl E, hr, rfl, .inl ?_⟩
           have k2 := key w
           rw [v1, v2] at k2
           simp only [execOp, ho, v1, v2, Sem.run_bind, run_eqGuard_agg w _ _ _ _ _ _ eqG231, Result.andThen_ok, run_neq_struct, k2, Sem.run_pure]
         · cases hx
       · cases hr3
     · cases hx
   · cases hx
 · cases hx
end Go.Ev
namespace Go.Ev
open Go Go.RowKit Go.Proofs Go.Shelf
set_option maxRecDepth 1000000
theorem choose_tape {P : Program} {W W1 : World} {q : Question} {i : Nat} (h : (choose q).run P W = .ok i W1) : W1.tape = W.tape := by
 simp only [choose, Sem.run] at h
 split at h
 · injection h with _ h
   rw [← h]
 · injection h with _ h
   rw [← h]
theorem tail_tape {P : Program} {W W' : World} {C : Array (Option MapEntry)} {v : Value} {n bm since clock : Nat} {seen : Array Nat}
  (h : (do
   let i ← choose (.mapNext C.size)
   match C[i]? with
    | some (some e) =>
      setObj n (.mapIter (some bm) since (seen.push e.born) clock)
      pure (Value.tuple #[.bool true, e.key, e.val])
    | some none => pure (Value.tuple #[.bool false])
    | none => stuck "Next: no such candidate" : Sem Value).run P W = .ok v W') : W'.tape = W.tape := by
 rw [Sem.run_bind] at h
 cases hc : (choose (.mapNext C.size)).run P W with
 | halt x w1 => rw [hc] at h; cases h
 | ok i W1 =>
  rw [hc, Result.andThen_ok] at h
  have h1 := choose_tape hc
  split at h
  · simp only [setObj, Sem.run_bind, Sem.run] at h
    split at h
    · cases h
    · injection h with _ h
      rw [← h]
      exact h1
    · cases h
  · injection h with _ h
    rw [← h]
    exact h1
  · cases h
theorem next_tape {P : Program} {w W' : World} {ty : TypeId} {bm since c0 clock : Nat} {seen : Array Nat} {es : Array MapEntry} {v : Value} (hb : w.heap[bm]? = some (.map es clock))
  (h : (Instr.next (.pointer (some ⟨w.heap.size, 0, none⟩)) false ty).run P (w.alloc (.mapIter (some bm) since seen c0)) = .ok v W') : W'.tape = w.tape := by
 have hlt : bm < w.heap.size := (Array.getElem?_eq_some_iff.1 hb).1
 have hb' : (w.alloc (.mapIter (some bm) since seen c0)).heap[bm]? = some (.map es clock) := by rw [heap_alloc_old w _ hlt, hb]
 simp only [Instr.next, getObj, Sem.run_bind, Sem.run, heap_alloc_new, hb', Result.andThen] at h
 split at h
 · cases h
 · split at h
   · have h2 := tail_tape h
     exact h2
   · have h2 := tail_tape h
     exact h2
theorem spend_ok (bd : Nat) (w : World) (h2 : w.cell? ⟨bd, 2, none⟩ = some (.bool false)) (h3 : w.cell? ⟨bd, 3, none⟩ = some (.int .i64 0)) :
  Calls Tryz.prog 172 #[.pointer (some ⟨bd, 0, none⟩)] w fun e w' => e = .returned (.bool true) ∧ w' = w := by
 have u86 := Tryz.underlying86
 have u24 := Tryz.underlying24
 have u4 := Tryz.underlying4
 have u3 := Tryz.underlying3
 have a4 := Tryz.isAgg4
 have z4 := Tryz.sizeOf4
 have a3 := Tryz.isAgg3
 have z3 := Tryz.sizeOf3
 go_enter Tryz.func172, Tryz.ntmps172
 go_wp2
 go_ret
 exact ⟨rfl, rfl⟩
theorem key_inj {l : List MapEntry} : (l.map (·.key)).Nodup → ∀ {x e : MapEntry}, x ∈ l → e ∈ l → x.key = e.key → x = e := by
 induction l with
 | nil => intro _ x e hx; cases hx
 | cons a l ih =>
  intro hn x e hx he h
  have hn' : a.key ∉ l.map (·.key) ∧ (l.map (·.key)).Nodup := List.nodup_cons.1 hn
  rcases List.mem_cons.1 hx with h1 | hx
  · rcases List.mem_cons.1 he with h2 | he
    · rw [h1, h2]
    · exact absurd (List.mem_map.2 ⟨e, he, by rw [← h, h1]⟩) hn'.1
  · rcases List.mem_cons.1 he with h2 | he
    · exact absurd (List.mem_map.2 ⟨x, hx, by rw [h, h2]⟩) hn'.1
    · exact ih hn'.2 hx he h
/-- Some of a map's entries, written into a row. -/
def Fed (ms : List MapEntry) (seen : Array Nat) (cs cs' : Array Value) : Prop :=
 cs'.size = cs.size ∧ (∀ e ∈ ms, seen.contains e.born = true → ∀ k : Nat, e.key = .int .i64 (k : Int) → cs'[k]? = some e.val) ∧
  ∀ i : Nat, (∀ e ∈ ms, seen.contains e.born = true → e.key ≠ .int .i64 (i : Int)) → cs'[i]? = cs[i]?
theorem Fed.none (ms : List MapEntry) (cs : Array Value) : Fed ms #[] cs cs := ⟨rfl, fun e _ h => by simp at h, fun _ _ => rfl⟩
theorem Fed.push {ms : List MapEntry} {seen : Array Nat} {cs cs' : Array Value} (hf : Fed ms seen cs cs') (hn : (ms.map (·.born)).Nodup) (hkn : (ms.map (·.key)).Nodup) {e : MapEntry} (he : e ∈ ms) {k : Nat} (hk : e.key = .int .i64 (k : Int)) (hlt : k < cs'.size) :
  Fed ms (seen.push e.born) cs (cs'.setIfInBounds k e.val) := by
 obtain ⟨h1, h2, h3⟩ := hf
 have inj : ∀ x ∈ ms, x.born = e.born → x = e := fun x hx h => by
  have h4 := find_born x ms hn hx
  have h5 := find_born e ms hn he
  rw [h] at h4
  exact Option.some.inj (h4.symm.trans h5)
 have injk : ∀ x ∈ ms, x.key = e.key → x = e := fun x hx h => key_inj hkn hx he h
 refine ⟨by rw [Array.size_setIfInBounds, h1], fun x hx hs j hj => ?_, fun i hi => ?_⟩
 · by_cases hxe : x = e
   · subst hxe
     rw [hk] at hj
     have : k = j := by injection hj with _ h9; omega
     subst this
     rw [Array.getElem?_setIfInBounds_self_of_lt hlt]
   · have hs2 : seen.contains x.born = true := by
      rw [Array.contains_push] at hs
      rcases Bool.or_eq_true_iff.1 hs with h9 | h9
      · exact h9
      · exact absurd (inj x hx (by simpa using h9)) hxe
     have hjk : k ≠ j := fun e9 => hxe (injk x hx (by rw [hj, hk, e9]))
     rw [Array.getElem?_setIfInBounds_ne hjk]
     exact h2 x hx hs2 j hj
 · have hik : k ≠ i := fun e9 => hi e he (by rw [Array.contains_push]; simp) (by rw [hk, e9])
   rw [Array.getElem?_setIfInBounds_ne hik]
   exact h3 i fun x hx hs => hi x hx (by rw [Array.contains_push, hs]; rfl)
theorem run_clear_map {W : World} {bm clock : Nat} {es : Array MapEntry} (hb : W.heap[bm]? = some (.map es clock)) : (Builtin.clear_ #[82] 0 #[.map (some bm)]).run Tryz.prog W = .ok (.tuple #[]) { W with heap := W.heap.setIfInBounds bm (.map #[] clock) } := by
 have e1 : (#[82] : Array TypeId)[0]? = some 82 := rfl
 have e2 : (#[Value.map (some bm)] : Array Value)[0]? = some (.map (some bm)) := rfl
 simp only [Builtin.clear_, e1, e2, Sem.run_bind, run_underlying Tryz.underlying82, Result.andThen_ok, getObj, setObj, Sem.run, hb]
 rfl
/-- What Flush leaves of the world. -/
structure Flushed (w w' : World) (bd bf bm : Nat) (ms : Array MapEntry) (clock : Nat) (cs dv : Array Value) (tf td : TypeId) (fl : Int) : Prop where
 os : w'.os = w.os
 output : w'.output = w.output
 tape : w'.tape = w.tape
 size : w.heap.size ≤ w'.heap.size
 other : ∀ j, j < w.heap.size → j ≠ bf → j ≠ bm → j ≠ bd → w'.heap[j]? = w.heap[j]?
 map : w'.heap[bm]? = some (.map #[] clock)
 dev : w'.heap[bd]? = some (.cells (dv.setIfInBounds 6 (.int .i64 (fl + 1))) td (0, 0))
 row : ∃ cs', w'.heap[bf]? = some (.cells cs' tf (0, 0)) ∧ cs'.size = cs.size ∧ (∀ e ∈ ms.toList, ∀ k : Nat, e.key = .int .i64 (k : Int) → cs'[k]? = some e.val) ∧
  ∀ i : Nat, (∀ e ∈ ms.toList, e.key ≠ .int .i64 (i : Int)) → cs'[i]? = cs[i]?
theorem setCell_alloc (w : World) (ob : Obj) (p : Addr) (v : Value) (h : p.block < w.heap.size) : (w.alloc ob).setCell p v = (w.setCell p v).alloc ob := by
 have : ∀ (H : Array Obj) (f : Obj → Obj), p.block < H.size → (H.push ob).modify p.block f = (H.modify p.block f).push ob := by
  intro H f hl
  apply Array.ext_getElem?
  intro i
  rw [Array.getElem?_modify, Array.getElem?_push, Array.getElem?_push, Array.size_modify, Array.getElem?_modify]
  by_cases h1 : i = H.size
  · rw [if_pos h1, if_pos h1, if_neg (by omega)]
  · rw [if_neg h1, if_neg h1]
 simp only [World.setCell, World.alloc, this _ _ h]
theorem alloc_cell {w1 : World} {b o : Nat} {ob : Obj} {cs : Array Value} {t : TypeId} {fr : Nat × Nat} (h : w1.heap[b]? = some (.cells cs t fr)) {x : Value} (hx : cs[o]? = some x) : (w1.alloc ob).cell? ⟨b, o, none⟩ = some x := by
 have := heap_alloc_old w1 ob (Array.getElem?_eq_some_iff.1 h).1
 simp [World.cell?, this, h, hx]
theorem alloc_frozen {w1 : World} {b o : Nat} {ob : Obj} {cs : Array Value} {t : TypeId} (h : w1.heap[b]? = some (.cells cs t (0, 0))) : (w1.alloc ob).frozen? ⟨b, o, none⟩ = false := by
 have := heap_alloc_old w1 ob (Array.getElem?_eq_some_iff.1 h).1
 simp [World.frozen?, this, h]
theorem fl_ok (bd bf bm nf cf : Nat) (fl : Int) (ms : Array MapEntry) (clock : Nat) (cs dv : Array Value) (tf td : TypeId) (w : World)
  (hd : w.heap[bd]? = some (.cells dv td (0, 0))) (hb : w.heap[bf]? = some (.cells cs tf (0, 0))) (hm : w.heap[bm]? = some (.map ms clock)) (hst : MapKept.Stamped ms clock)
  (h0 : dv[0]? = some (.slice (some ⟨bf, 0, none⟩) nf cf)) (h1 : dv[1]? = some (.map (some bm))) (h2 : dv[2]? = some (.bool false)) (h3 : dv[3]? = some (.int .i64 0)) (h6 : dv[6]? = some (.int .i64 fl))
  (hfl : 0 ≤ fl ∧ fl < 1000000) (hnf : nf ≤ cs.size) (hk : ∀ e ∈ ms.toList, ∃ (k : Nat) (p : Option Addr), e.key = .int .i64 (k : Int) ∧ k < nf ∧ e.val = .pointer p) (hdf : bd ≠ bf) (hmf : bm ≠ bf) (hdm : bd ≠ bm) :
  Calls Tryz.prog 109 #[.pointer (some ⟨bd, 0, none⟩)] w fun e w' => e = .returned (.int .i64 0) ∧ Flushed w w' bd bf bm ms clock cs dv tf td fl := by
 have u86 := Tryz.underlying86
 have u24 := Tryz.underlying24
 have u4 := Tryz.underlying4
 have u3 := Tryz.underlying3
 have a4 := Tryz.isAgg4
 have z4 := Tryz.sizeOf4
 have a3 := Tryz.isAgg3
 have z3 := Tryz.sizeOf3
 have u81 := Tryz.underlying81
 have u82 := Tryz.underlying82
 have u311 := Tryz.underlying311
 have a81 := Tryz.isAgg81
 have z81 := Tryz.sizeOf81
 have a82 := Tryz.isAgg82
 have z82 := Tryz.sizeOf82
 have a311 := Tryz.isAgg311
 have z311 := Tryz.sizeOf311
 have e172 : ∀ args w, (callFunc 172 args).run Tryz.prog w = .ok (.enter 172 args) w := enters_of Tryz.func172 (by kernel_rfl) rfl
 have c0 : w.cell? ⟨bd, 0, none⟩ = some (.slice (some ⟨bf, 0, none⟩) nf cf) := by simp [World.cell?, hd, h0]
 have c1 : w.cell? ⟨bd, 1, none⟩ = some (.map (some bm)) := by simp [World.cell?, hd, h1]
 have c2 : w.cell? ⟨bd, 2, none⟩ = some (.bool false) := by simp [World.cell?, hd, h2]
 have c3 : w.cell? ⟨bd, 3, none⟩ = some (.int .i64 0) := by simp [World.cell?, hd, h3]
 have hrg := run_range_map (P := Tryz.prog) w 82 3 311 bm ms clock u82 hm
 go_enter Tryz.func109, Tryz.ntmps109
 go_wp2_with (go_at_fn (172); refine (spend_ok bd w c2 c3).mono ?_; rintro e w' ⟨rfl, h9⟩; subst w')
 go_loopw [3] (fun _ w' => ∃ (w1 : World) (seen : Array Nat) (cs' : Array Value), w1.heap.size = w.heap.size ∧ (∀ j, j ≠ bf → w1.heap[j]? = w.heap[j]?) ∧ w1.os = w.os ∧ w1.output = w.output ∧ w1.tape = w.tape ∧ w1.heap[bf]? = some (.cells cs' tf (0, 0)) ∧ Fed ms.toList seen cs cs' ∧ w' = w1.alloc (.mapIter (some bm) clock seen clock)) (fun _ w' => (leftOf ms (w'.iterSeen w.heap.size)).size)
 case atStart => exact ⟨w, #[], cs, rfl, fun _ _ => rfl, rfl, rfl, rfl, hb, Fed.none _ _, rfl⟩
 case round =>
  obtain ⟨w1, seen, cs', hsz, hot, ho1, ho2, ho3, hb1, hfed, rfl⟩ := hrel
  have hbl := (Array.getElem?_eq_some_iff.1 hb1).1
  have hdl : bd < w1.heap.size := by rw [hsz]; exact (Array.getElem?_eq_some_iff.1 hd).1
  have hm1 : w1.heap[bm]? = some (.map ms clock) := by rw [hot bm hmf]; exact hm
  have hd1 : w1.heap[bd]? = some (.cells dv td (0, 0)) := by rw [hot bd hdf]; exact hd
  have law := run_next_map (P := Tryz.prog) w1 0 bm clock clock seen ms clock hm1 hst.1 (Nat.le_refl _)
  rcases law with ⟨g0, hrun⟩ | ⟨e, he, w2, hal2, hrun⟩
  · rw [hsz] at hrun
    have hnx : ∀ ty, (Instr.next (.pointer (some ⟨w.heap.size, 0, none⟩)) false ty).run Tryz.prog (w1.alloc (.mapIter (some bm) clock seen clock)) = _ := fun _ => hrun
    have x1 : (w1.alloc (.mapIter (some bm) clock seen clock)).cell? ⟨bd, 1, none⟩ = some (.map (some bm)) := alloc_cell hd1 h1
    have hml : bm < w1.heap.size := (Array.getElem?_eq_some_iff.1 hm1).1
    obtain ⟨W2, hcl, q1, q2, q3, q4, hot2, q5⟩ : ∃ W2 : World, (Builtin.clear_ #[82] 0 #[.map (some bm)]).run Tryz.prog (w1.alloc (.mapIter (some bm) clock seen clock)) = .ok (.tuple #[]) W2 ∧ W2.os = w.os ∧ W2.output = w.output ∧ W2.tape = w.tape ∧ W2.heap.size = w1.heap.size + 1 ∧
      (∀ j, j < w1.heap.size → j ≠ bm → W2.heap[j]? = w1.heap[j]?) ∧ W2.heap[bm]? = some (.map #[] clock) := by
     refine ⟨_, run_clear_map (by rw [heap_alloc_old _ _ hml]; exact hm1), ho1, ho2, ho3, ?_, fun j hj hjm => ?_, ?_⟩
     · show ((w1.heap.push _).setIfInBounds bm _).size = _
       rw [Array.size_setIfInBounds, Array.size_push]
     · show ((w1.alloc _).heap.setIfInBounds bm _)[j]? = _
       rw [Array.getElem?_setIfInBounds_ne (fun e => hjm e.symm), heap_alloc_old _ _ hj]
     · show ((w1.heap.push _).setIfInBounds bm _)[bm]? = _
       rw [Array.getElem?_setIfInBounds_self_of_lt (by rw [Array.size_push]; omega)]
    have hd2 : W2.heap[bd]? = some (.cells dv td (0, 0)) := by rw [hot2 bd hdl hdm]; exact hd1
    have x6 : W2.cell? ⟨bd, 6, none⟩ = some (.int .i64 fl) := by simp [World.cell?, hd2, h6]
    have y6 : W2.frozen? ⟨bd, 6, none⟩ = false := by simp [World.frozen?, hd2]
    have hwr : (fl + 1 + 9223372036854775808) % 18446744073709551616 - 9223372036854775808 = fl + 1 := by omega
    go_wp2
    go_ret
    have hall := all_seen ms seen g0
    have far : ∀ j, j ≠ bd → (W2.setCell ⟨bd, 6, none⟩ (.int .i64 (fl + 1))).heap[j]? = W2.heap[j]? := fun j hj => Below.heap_setCell W2 ⟨bd, 6, none⟩ _ j hj
    refine ⟨rfl, ⟨q1, q2, q3, ?_, fun j hj j1 j2 j3 => ?_, ?_, ?_, ⟨cs', ?_, hfed.1, fun e he k hk => hfed.2.1 e he (hall e he) k hk, fun i hi => hfed.2.2 i fun e he _ => hi e he⟩⟩⟩
    · show _ ≤ (W2.heap.modify _ _).size
      rw [Array.size_modify]
      omega
    · rw [far j j3, hot2 j (by omega) j2, hot j j1]
    · rw [far bm (Ne.symm hdm), q5]
    · show (W2.setCell ⟨bd, 6, none⟩ (.int .i64 (fl + 1))).heap[bd]? = _
      simp only [World.setCell, Array.getElem?_modify, hd2, Option.map_some, if_pos]
      rfl
    · rw [far bf (Ne.symm hdf), hot2 bf hbl (Ne.symm hmf), hb1]
  · obtain ⟨k, pp, hkey, hkl, hval⟩ := hk e (mem_left he).1
    have htp : (w2.alloc (.mapIter (some bm) clock (seen.push e.born) clock)).tape = w1.tape := next_tape hm1 hrun
    have hsz2 : w2.heap.size = w.heap.size := by rw [hal2.1, hsz]
    have hm2 : w2.heap[bm]? = some (.map ms clock) := by rw [hal2.1]; exact hm1
    have hd2 : w2.heap[bd]? = some (.cells dv td (0, 0)) := by rw [hal2.1]; exact hd1
    have hb2 : w2.heap[bf]? = some (.cells cs' tf (0, 0)) := by rw [hal2.1]; exact hb1
    have hen := run_entry_map (P := Tryz.prog) w2 bm clock seen ms clock e hm2 (mem_left he).1 hst.2.1
    rw [hsz, hkey, hval] at hrun
    rw [hsz2, hkey, hval] at hen
    have hnx : ∀ ty, (Instr.next (.pointer (some ⟨w.heap.size, 0, none⟩)) false ty).run Tryz.prog (w1.alloc (.mapIter (some bm) clock seen clock)) = _ := fun _ => hrun
    have x0 : (w2.alloc (.mapIter (some bm) clock (seen.push e.born) clock)).cell? ⟨bd, 0, none⟩ = some (.slice (some ⟨bf, 0, none⟩) nf cf) := alloc_cell hd2 h0
    have hkc : k < cs'.size := by rw [hfed.1]; omega
    obtain ⟨xk, hxk⟩ : ∃ x, cs'[k]? = some x := ⟨_, Array.getElem?_eq_getElem hkc⟩
    have xk0 : (w2.alloc (.mapIter (some bm) clock (seen.push e.born) clock)).cell? ⟨bf, k, none⟩ = some xk := alloc_cell hb2 hxk
    have yk0 : (w2.alloc (.mapIter (some bm) clock (seen.push e.born) clock)).frozen? ⟨bf, k, none⟩ = false := alloc_frozen hb2
    have hk0 : ¬ ((k : Int) < 0) := by omega
    have hk1 : (k : Int) < (nf : Int) := by omega
    have hk2 : ((k : Int)).toNat = k := rfl
    go_wp2
    have hswap : (w2.alloc (.mapIter (some bm) clock (seen.push e.born) clock)).setCell ⟨bf, k, none⟩ (.pointer pp) = (w2.setCell ⟨bf, k, none⟩ (.pointer pp)).alloc (.mapIter (some bm) clock (seen.push e.born) clock) := setCell_alloc w2 _ _ _ (Array.getElem?_eq_some_iff.1 hb2).1
    have hsz3 : (w2.setCell ⟨bf, k, none⟩ (.pointer pp)).heap.size = w.heap.size := by
     show (w2.heap.modify _ _).size = _
     rw [Array.size_modify, hsz2]
    refine ⟨⟨w2.setCell ⟨bf, k, none⟩ (.pointer pp), seen.push e.born, cs'.setIfInBounds k e.val, hsz3, fun j hj => ?_, ?_, ?_, ?_, ?_, hfed.push hst.2.1 hst.2.2 (mem_left he).1 hkey hkc, hswap⟩, ?_⟩
    · rw [Below.heap_setCell w2 ⟨bf, k, none⟩ _ j hj, hal2.1]
      exact hot j hj
    · exact hal2.2.1.trans ho1
    · exact hal2.2.2.trans ho2
    · exact htp.trans ho3
    · rw [hval]
      show (w2.setCell ⟨bf, k, none⟩ (.pointer pp)).heap[bf]? = _
      simp only [World.setCell, Array.getElem?_modify, hb2, Option.map_some, if_pos]
      rfl
    · rw [hswap, ← hsz3, World.iterSeen_alloc, hsz3, ← hsz, World.iterSeen_alloc]
      exact left_shrinks ms seen e he
end Go.Ev
namespace Go.Ev
open Go Go.RowKit Go.Proofs
def memN (a : Nat) : List Nat → Bool
 | [] => false
 | b :: l => bif Nat.beq a b then true else memN a l
def nodupN : List Nat → Bool
 | [] => true
 | a :: l => bif memN a l then false else nodupN l
theorem memN_ok {a : Nat} : ∀ {l : List Nat}, memN a l = false → a ∉ l
 | [], _ => by simp
 | b :: l, h => by
  unfold memN at h
  cases hb : Nat.beq a b with
  | true => rw [hb] at h; cases h
  | false =>
   rw [hb] at h
   intro hm
   rcases List.mem_cons.1 hm with e | hm
   · rw [e, Nat.beq_refl] at hb; cases hb
   · exact memN_ok h hm
theorem nodupN_ok : ∀ {l : List Nat}, nodupN l = true → l.Nodup
 | [], _ => List.nodup_nil
 | a :: l, h => by
  unfold nodupN at h
  cases hm : memN a l with
  | true => rw [hm] at h; cases h
  | false =>
   rw [hm] at h
   exact List.nodup_cons.2 ⟨memN_ok hm, nodupN_ok h⟩
/-- A page that waits: where, which. -/
def ent : A1 × A2 × Nat → Option (Nat × A1)
 | (.i .i64 (.ofNat j), .one (.p k o), _) => some (j, .p k o)
 | _ => none
theorem ent_ok {e : A1 × A2 × Nat} {j : Nat} {p : A1} (h : ent e = some (j, p)) : e.1 = .i .i64 (j : Int) ∧ e.2.1 = .one p ∧ ∃ k o, p = .p k o := by
 unfold ent at h
 split at h
 · have h := Option.some.inj h
   injection h with h1 h2
   subst h1; subst h2
   exact ⟨rfl, rfl, _, _, rfl⟩
 · cases h
/-- What waits, laid into the row. -/
def setAll (nf : Nat) : List (A1 × A2 × Nat) → List A1 → Option (List A1)
 | [], l => some l
 | e :: es, l => match ent e with
   | some (j, p) => bif Nat.blt j nf then setAll nf es (l.set j p) else none
   | none => none
theorem setAll_cons {nf : Nat} {e : A1 × A2 × Nat} {es : List (A1 × A2 × Nat)} {l l' : List A1} (h : setAll nf (e :: es) l = some l') : ∃ j p, ent e = some (j, p) ∧ j < nf ∧ setAll nf es (l.set j p) = some l' := by
 have h : (match ent e with | some (j, p) => bif Nat.blt j nf then setAll nf es (l.set j p) else none | none => none) = some l' := h
 cases he : ent e with
 | none => rw [he] at h; cases h
 | some q =>
  obtain ⟨j, p⟩ := q
  rw [he] at h
  cases hb : Nat.blt j nf with
  | false => simp only [hb, cond_false] at h; cases h
  | true => exact ⟨j, p, rfl, Nat.le_of_ble_eq_true hb, by simpa only [hb, cond_true] using h⟩
def keyN : A1 → Nat
 | .i .i64 (.ofNat j) => j
 | _ => 0
def belowN (n : Nat) : List Nat → Bool
 | [] => true
 | a :: l => bif Nat.blt a n then belowN n l else false
theorem belowN_ok {n : Nat} : ∀ {l : List Nat}, belowN n l = true → ∀ x ∈ l, x < n
 | [], _, x, hx => by cases hx
 | a :: l, h, x, hx => by
  unfold belowN at h
  cases hb : Nat.blt a n with
  | false => rw [hb] at h; cases h
  | true =>
   rw [hb] at h
   rcases List.mem_cons.1 hx with e | hx
   · rw [e]; exact Nat.le_of_ble_eq_true hb
   · exact belowN_ok h x hx
def exFl (h : Hp) (xs : List AV) : Option (AV × Hp) := match xs with
 | [.v (.one (.p d 0))] => match h.get d with
   | some (.cells t [.sl kf 0 nf cf, .m kw, .b false, .i .i64 0, ls, ws, .i .i64 (.ofNat fl), rs, cs]) => match h.get kf, h.get kw with
     | some (.cells tf row), some (.map es cl) =>
       bif Nat.ble nf row.length && Nat.blt fl 1000000 && (Nat.beq t 5).not && (Nat.beq tf 5).not && (Nat.beq d kf).not && belowN cl (es.map fun e => e.2.2) && nodupN (es.map fun e => e.2.2) && nodupN (es.map fun e => keyN e.1) then
        (setAll nf es row).map fun row' => (.v (.one (.i .i64 0)), ((h.put kf (.cells tf row')).put kw (.map [] cl)).put d (.cells t [.sl kf 0 nf cf, .m kw, .b false, .i .i64 0, ls, ws, .i .i64 (.ofNat (fl + 1)), rs, cs]))
       else none
     | _, _ => none
   | _ => none
 | _ => none
theorem setAll_len {nf : Nat} : ∀ {es : List (A1 × A2 × Nat)} {l l' : List A1}, setAll nf es l = some l' → l'.length = l.length
 | [], l, l', h => by cases h; rfl
 | e :: es, l, l', h => by
  obtain ⟨j, p, _, _, h3⟩ := setAll_cons h
  rw [setAll_len h3, List.length_set]
theorem setAll_key {nf : Nat} : ∀ {es : List (A1 × A2 × Nat)} {l l' : List A1}, setAll nf es l = some l' → ∀ e ∈ es, ∃ (j k o : Nat), e.1 = .i .i64 (j : Int) ∧ j < nf ∧ e.2.1 = .one (.p k o)
 | [], l, l', h, e, he => by cases he
 | e0 :: es, l, l', h, e, he => by
  obtain ⟨j, p, h1, h2, h3⟩ := setAll_cons h
  rcases List.mem_cons.1 he with e9 | he
  · obtain ⟨g1, g2, k, o, g3⟩ := ent_ok h1
    rw [e9]
    exact ⟨j, k, o, g1, h2, by rw [g2, g3]⟩
  · exact setAll_key h3 e he
theorem setAll_at {nf : Nat} : ∀ {es : List (A1 × A2 × Nat)} {l l' : List A1}, setAll nf es l = some l' → ∀ (i : Nat) (x : A1), l'[i]? = some x → (∃ e ∈ es, e.1 = .i .i64 (i : Int) ∧ e.2.1 = .one x) ∨ ((∀ e ∈ es, e.1 ≠ .i .i64 (i : Int)) ∧ l[i]? = some x)
 | [], l, l', h, i, x, hx => by cases h; exact .inr ⟨fun e he => (by cases he), hx⟩
 | e0 :: es, l, l', h, i, x, hx => by
  obtain ⟨j, p, h1, h2, h3⟩ := setAll_cons h
  obtain ⟨g1, g2, k, o, g3⟩ := ent_ok h1
  rcases setAll_at h3 i x hx with ⟨e, he, f1, f2⟩ | ⟨f1, f2⟩
  · exact .inl ⟨e, List.mem_cons_of_mem _ he, f1, f2⟩
  · by_cases hij : j = i
    · subst hij
      rw [List.getElem?_set] at f2
      split at f2
      · split at f2
        · have e9 := Option.some.inj f2
          exact .inl ⟨e0, List.mem_cons_self, g1, by rw [g2, e9]⟩
        · cases f2
      · rename_i h9; exact absurd rfl h9
    · rw [List.getElem?_set, if_neg hij] at f2
      refine .inr ⟨fun e he => ?_, f2⟩
      rcases List.mem_cons.1 he with e9 | he
      · rw [e9, g1]
        intro e8
        injection e8 with _ e8
        exact hij (Int.ofNat.inj e8)
      · exact f1 e he
variable [Sy]
theorem All2.of_get {α β : Type} {R : α → β → Prop} : ∀ {l : List α} {m : List β}, l.length = m.length → (∀ (i : Nat) (a : α), l[i]? = some a → ∃ b, m[i]? = some b ∧ R a b) → All2 R l m
 | [], [], _, _ => trivial
 | a :: l, b :: m, hl, h => by
  refine ⟨?_, All2.of_get (by simpa using hl) fun i a ha => by simpa using h (i + 1) a (by simpa using ha)⟩
  obtain ⟨b', h1, h2⟩ := h 0 a rfl
  cases h1
  exact h2
 | [], b :: m, hl, _ => by simp at hl
 | a :: l, [], hl, _ => by simp at hl
theorem All2.and_mem {α β : Type} {R : α → β → Prop} : ∀ {l : List α} {m : List β}, All2 R l m → All2 (fun a b => a ∈ l ∧ R a b) l m
 | [], [], _ => trivial
 | a :: l, b :: m, h => ⟨⟨List.mem_cons_self, h.1⟩, (All2.and_mem h.2).imp fun x y hxy => ⟨List.mem_cons_of_mem _ hxy.1, hxy.2⟩⟩
theorem All2.mem_l {α β : Type} {R : α → β → Prop} {l : List α} {m : List β} (h : All2 R l m) {a : α} (ha : a ∈ l) : ∃ b ∈ m, R a b := by
 obtain ⟨i, hi⟩ := List.mem_iff_getElem?.1 ha
 obtain ⟨b, h1, h2⟩ := h.get i a hi
 exact ⟨b, List.mem_of_getElem? h1, h2⟩
theorem All2.map_eq {α β γ : Type} {R : α → β → Prop} {f : α → γ} {g : β → γ} (hr : ∀ a b, R a b → g b = f a) : ∀ {l : List α} {m : List β}, All2 R l m → m.map g = l.map f
 | [], [], _ => rfl
 | a :: l, b :: m, h => by
  rw [List.map_cons, List.map_cons, hr a b h.1, All2.map_eq hr h.2]
section
variable {E : List Ent} {w0 : Base} {w w' : World} {h : Hp}
theorem Rep.setO (hr : Rep w0 E h w) {k b c : Nat} {q q' : AO} {x' : Obj} (hk : E[k]? = some (.blk b c)) (hq : h.get k = some q) (hi : Is E c (some x') q') :
  Rep w0 E (h.put k q') { w with heap := w.heap.setIfInBounds b x' } := by
 have hlt := hr.old k q b c (lt_of_get hr hk) hq hk
 refine hr.put hk hq ⟨hr.below.os, hr.below.tape, hr.below.output, ?_, fun j hj => ?_⟩ ?_ ?_ ?_
 · show w0.w.heap.size ≤ (w.heap.setIfInBounds b x').size
   rw [Array.size_setIfInBounds]
   exact hr.below.size
 · show (w.heap.setIfInBounds b x')[j]? = _
   rw [Array.getElem?_setIfInBounds_ne (fun e : b = j => hlt.1 (by rw [e]; exact hj))]
   exact hr.below.block j hj
 · show w.heap.size ≤ (w.heap.setIfInBounds b x').size
   rw [Array.size_setIfInBounds]
   exact Nat.le_refl _
 · show Is E c (w.heap.setIfInBounds b x')[b]? q'
   rw [Array.getElem?_setIfInBounds_self_of_lt hlt.2]
   exact hi
 · intro j hj _
   show (w.heap.setIfInBounds b x')[j]? = _
   rw [Array.getElem?_setIfInBounds_ne (fun e : b = j => hj e.symm)]
theorem get_put_ne {k j : Nat} {q : AO} (hr : Rep w0 E h w) {e e' : Ent} (hk : E[k]? = some e) (hj : E[j]? = some e') (hne : j ≠ k) : (h.put k q).get j = h.get j :=
 Tr.get_other Go.Ev.D h.t k j _ (Nat.lt_of_lt_of_le (lt_of_get hr hk) hr.bound) (Nat.lt_of_lt_of_le (lt_of_get hr hj) hr.bound) hne
theorem frN {t n : Nat} {fr : Nat × Nat} (h : FrOk t n fr) (ht : (Nat.beq t 5).not = true) : fr = (0, 0) := by
 rcases h with h | h
 · rw [h.2] at ht
   cases ht
 · exact h
theorem enters109 (xs : Array Value) (w : World) : (callFunc 109 xs).run Tryz.prog w = .ok (.enter 109 xs) w := by
 have hf : Tryz.prog.funcs[109]? = some Tryz.f109 := Tryz.func109
 have hng := no_count 109 Tryz.f109 hf
 have hb : Tryz.f109.body.isNone = false := by kernel_rfl
 simp only [callFunc, Sem.run_bind, run_program, Result.andThen_ok, hf, hng, Bool.false_eq_true, if_false, hb, Sem.run_pure]
theorem flush_ok {xs : List AV} {y : AV} {h' : Hp} (hx : exFl h xs = some (y, h')) {vs : List Value} (hvs : All2 (VV E) xs vs) (hr : Rep w0 E h w) : CallDoes Tryz.prog w0 E 109 vs.toArray w y h' := by
 unfold exFl at hx
 split at hx
 · rename_i d
   split at hx
   · rename_i t kf nf cf kw ls ws fl rs cs hgd
     split at hx
     · rename_i tf row es cl hgf hgw
       cases hc : (Nat.ble nf row.length && Nat.blt fl 1000000 && (Nat.beq t 5).not && (Nat.beq tf 5).not && (Nat.beq d kf).not && belowN cl (es.map fun e => e.2.2) && nodupN (es.map fun e => e.2.2) && nodupN (es.map fun e => keyN e.1)) with
       | false => rw [hc] at hx; cases hx
       | true =>
        rw [hc, cond_true] at hx
        simp only [Bool.and_eq_true] at hc
        obtain ⟨⟨⟨⟨⟨⟨⟨k1, k2⟩, k3⟩, k4⟩, k5⟩, k6⟩, k7⟩, k8⟩ := hc
        cases hs : setAll nf es row with
        | none => rw [hs] at hx; cases hx
        | some row' =>
         rw [hs] at hx
         have hx := Option.some.inj hx
         injection hx with e1 e2
         subst e1; subst e2
         cases vs with
         | nil => exact hvs.elim
         | cons v vs =>
         cases vs with
         | cons _ _ => exact hvs.2.elim
         | nil =>
          obtain ⟨bd, cd, hkd, rfl⟩ : ∃ b c, E[d]? = some (.blk b c) ∧ v = .pointer (some ⟨b, 0, none⟩) := hvs.1
          obtain ⟨dv, frd, gd1, gd2, gd3⟩ := (hr.obj d _ (lt_of_get hr hkd) hgd).is hkd
          obtain rfl := frN gd2 k3
          obtain ⟨v0, a0, bf, cf', hkf, e0, hle⟩ := gd3.get 0 _ rfl
          obtain ⟨v1, a1, bm, cm, hkw, e1⟩ := gd3.get 1 _ rfl
          obtain ⟨v2, a2, e2⟩ := gd3.get 2 _ rfl
          obtain ⟨v3, a3, e3⟩ := gd3.get 3 _ rfl
          obtain ⟨v6, a6, e6⟩ := gd3.get 6 _ rfl
          have e2 : v2 = .bool false := e2
          have e3 : v3 = .int .i64 0 := e3
          have e6 : v6 = .int .i64 (fl : Int) := e6
          subst e0; subst e1; subst e2; subst e3; subst e6
          rw [Array.getElem?_toList] at a0 a1 a2 a3 a6
          obtain ⟨csv, frf, gf1, gf2, gf3⟩ := (hr.obj kf _ (lt_of_get hr hkf) hgf).is hkf
          obtain rfl := frN gf2 k4
          obtain ⟨ms, gm1, gm2⟩ := (hr.obj kw _ (lt_of_get hr hkw) hgw).is hkw
          have hdk : d ≠ kf := fun e => by
           rw [e, Nat.beq_refl] at k5
           cases k5
          have hdf : bd ≠ bf := fun e => by
           subst e
           exact hdk (hr.sep d kf _ _ _ _ _ (lt_of_get hr hkd) (lt_of_get hr hkf) hgd hgf hkd hkf)
          have hmf : bm ≠ bf := fun e => by
           rw [e, gf1] at gm1
           cases gm1
          have hdm : bd ≠ bm := fun e => by
           rw [e, gm1] at gd1
           cases gd1
          have hwf : kw ≠ kf := fun e => by
           rw [e, hgf] at hgw
           cases hgw
          have hdw : d ≠ kw := fun e => by
           rw [e, hgw] at hgd
           cases hgd
          have hlen : row.length = csv.size := by rw [gf3.length, Array.length_toList]
          have hborn : ms.toList.map (·.born) = es.map fun e => e.2.2 := gm2.map_eq fun a b hab => hab.2.2
          have hkeys : ms.toList.map (·.key) = es.map fun e => Value.int .i64 (keyN e.1 : Nat) := gm2.and_mem.map_eq fun a b hab => by
           obtain ⟨j, k, o, g1, g2, g3⟩ := setAll_key hs a hab.1
           have hv := hab.2.1
           rw [g1] at hv ⊢
           exact hv
          have hst : MapKept.Stamped ms cl := by
           refine ⟨fun x hx => belowN_ok k6 _ (by rw [← hborn]; exact List.mem_map.2 ⟨x, hx, rfl⟩), by rw [hborn]; exact nodupN_ok k7, ?_⟩
           rw [hkeys]
           have hn := nodupN_ok k8
           unfold List.Nodup at hn ⊢
           rw [List.pairwise_map] at hn ⊢
           refine hn.imp fun {x y} hne e9 => hne ?_
           injection e9 with _ e9
           exact Int.ofNat.inj e9
          have hk : ∀ m ∈ ms.toList, ∃ (k : Nat) (p : Option Addr), m.key = .int .i64 (k : Int) ∧ k < nf ∧ m.val = .pointer p := fun m hm => by
           obtain ⟨e, he, hme⟩ := gm2.mem m hm
           obtain ⟨j, k, o, g1, g2, g3⟩ := setAll_key hs e he
           have h1 := hme.1
           rw [g1] at h1
           have h2 := hme.2.1
           rw [g3] at h2
           obtain ⟨b, c, _, h2⟩ := h2
           exact ⟨j, _, h1, g2, h2⟩
          refine .inl ⟨enters109 _ _, ?_⟩
          refine Calls.mono (fl_ok bd bf bm nf (capOf cf' cf) (fl : Int) ms cl csv dv tf t w gd1 gf1 gm1 hst a0 a1 a2 a3 a6 ⟨by omega, by have := Nat.le_of_ble_eq_true k2; omega⟩ (by rw [← hlen]; exact Nat.le_of_ble_eq_true k1) hk hdf hmf hdm) ?_
          rintro e w' ⟨rfl, hF⟩
          obtain ⟨cs', r1, r2, r3, r4⟩ := hF.row
          have hrow : All2 (V1 E) row' cs'.toList := by
           refine All2.of_get (by rw [setAll_len hs, hlen, Array.length_toList, r2]) fun i x hi => ?_
           rw [Array.getElem?_toList]
           rcases setAll_at hs i x hi with ⟨e, he, q1, q2⟩ | ⟨q1, q2⟩
           · obtain ⟨m, hm, hme⟩ := gm2.mem_l he
             have h1 := hme.1
             rw [q1] at h1
             have h2 := hme.2.1
             rw [q2] at h2
             exact ⟨_, r3 m hm i h1, h2⟩
           · obtain ⟨v, h1, h2⟩ := gf3.get i x q2
             refine ⟨v, ?_, h2⟩
             rw [r4 i fun m hm hmk => ?_, ← Array.getElem?_toList, h1]
             obtain ⟨e, he, hme⟩ := gm2.mem m hm
             obtain ⟨j, k, o, g1, g2, g3⟩ := setAll_key hs e he
             have h3 := hme.1
             rw [g1] at h3
             have h3 : m.key = .int .i64 (j : Int) := h3
             rw [h3] at hmk
             injection hmk with _ hmk
             exact q1 e he (by rw [g1, hmk])
          have hr1 := hr.setO (x' := .cells cs' tf (0, 0)) (q' := .cells tf row') hkf hgf ⟨cs', (0, 0), rfl, .inr rfl, hrow⟩
          have hr2 := hr1.setO (x' := .map #[] cl) (q' := .map [] cl) hkw (by rw [get_put_ne hr hkf hkw hwf]; exact hgw) ⟨#[], rfl, trivial⟩
          have hr3 := hr2.setO (x' := .cells (dv.setIfInBounds 6 (.int .i64 ((fl : Int) + 1))) t (0, 0)) (q' := .cells t [.sl kf 0 nf cf, .m kw, .b false, .i .i64 0, ls, ws, .i .i64 (.ofNat (fl + 1)), rs, cs]) hkd
           (by rw [get_put_ne hr1 hkw hkd hdw, get_put_ne hr hkf hkd hdk]; exact hgd)
           ⟨_, (0, 0), rfl, .inr rfl, by
            have h9 := gd3.set 6 (.i .i64 (.ofNat (fl + 1))) (.int .i64 ((fl : Int) + 1)) (show Value.int .i64 ((fl : Int) + 1) = Value.int .i64 (Int.ofNat (fl + 1)) from rfl)
            rw [Array.toList_setIfInBounds]
            exact h9⟩
          have nd := (hr.old d _ bd cd (lt_of_get hr hkd) hgd hkd)
          have nf' := (hr.old kf _ bf cf' (lt_of_get hr hkf) hgf hkf)
          have nm := (hr.old kw _ bm cm (lt_of_get hr hkw) hgw hkw)
          refine ⟨_, rfl, E, Pre.refl E, hr3.move ⟨hF.os.trans hr.below.os, hF.tape.trans hr.below.tape, hF.output.trans hr.below.output, Nat.le_trans hr.below.size hF.size, fun j hj => ?_⟩ ?_ fun k o b c hk ho he => ?_, rfl⟩
          · have hjs := Nat.lt_of_lt_of_le (w0.lt j hj) hr.below.size
            rw [hF.other j hjs (fun e => nf'.1 (e ▸ hj)) (fun e => nm.1 (e ▸ hj)) (fun e => nd.1 (e ▸ hj))]
            exact hr.below.block j hj
          · show (((w.heap.setIfInBounds bf _).setIfInBounds bm _).setIfInBounds bd _).size ≤ _
            rw [Array.size_setIfInBounds, Array.size_setIfInBounds, Array.size_setIfInBounds]
            exact hF.size
          · have hbs : b < w.heap.size := by
             have h9 := (hr3.old k o b c hk ho he).2
             have h9 : b < (((w.heap.setIfInBounds bf (.cells cs' tf (0, 0))).setIfInBounds bm (.map #[] cl)).setIfInBounds bd (.cells (dv.setIfInBounds 6 (.int .i64 ((fl : Int) + 1))) t (0, 0))).size := h9
             rwa [Array.size_setIfInBounds, Array.size_setIfInBounds, Array.size_setIfInBounds] at h9
            show w'.heap[b]? = (((w.heap.setIfInBounds bf (.cells cs' tf (0, 0))).setIfInBounds bm (.map #[] cl)).setIfInBounds bd (.cells (dv.setIfInBounds 6 (.int .i64 ((fl : Int) + 1))) t (0, 0)))[b]?
            by_cases h1 : bd = b
            · subst h1
              rw [Array.getElem?_setIfInBounds_self_of_lt (by rw [Array.size_setIfInBounds, Array.size_setIfInBounds]; exact hbs)]
              exact hF.dev
            · rw [Array.getElem?_setIfInBounds_ne h1]
              by_cases h2 : bm = b
              · subst h2
                rw [Array.getElem?_setIfInBounds_self_of_lt (by rw [Array.size_setIfInBounds]; exact hbs)]
                exact hF.map
              · rw [Array.getElem?_setIfInBounds_ne h2]
                by_cases h3 : bf = b
                · subst h3
                  rw [Array.getElem?_setIfInBounds_self_of_lt hbs]
                  exact r1
                · rw [Array.getElem?_setIfInBounds_ne h3]
                  exact hF.other b hbs (Ne.symm h3) (Ne.symm h2) (Ne.symm h1)
     · cases hx
   · cases hx
 · cases hx
end
end Go.Ev
