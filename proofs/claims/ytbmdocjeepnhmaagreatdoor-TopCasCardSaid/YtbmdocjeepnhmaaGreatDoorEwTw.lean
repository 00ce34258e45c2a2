/- TopCas, called: its tables. -/
import Derived.Test.YtbmdocjeepnhmaaGreatDoorEwTy
import Derived.Test.YtbmdocjeepnhmaaGreatDoorEwPa8
import Derived.Test.YtbmdocjeepnhmaaGreatDoorEwPo10
set_option linter.unusedVariables false
set_option linter.unusedSimpArgs false
set_option linter.unusedSectionVars false
namespace Go.Ev
open Go Go.RowKit Go.Proofs
set_option maxRecDepth 1000000
def ruLen (A : Fr) (h : Hp) (o : Oper) : Option (AV × List U) := match o.op with
 | .call c => match c.callee with
   | .builtin .len => if allSome (evA A) c.args.toList = some [.v (.one (.y 21))] ∧ c.argTypes.toList = [40] then some (.v (.one (.y 22)), []) else none
   | _ => none
 | _ => none
def ruL (p : Program) (tab : List Rl) (t2 : List R2) (A : Fr) (h : Hp) (o : Oper) : Option (AV × List U) := match ruLen A h o with
 | some r => some r
 | none => ru2 p tab t2 A h o
noncomputable def exF : CallT := memo 8 Xa8 Ha8 Ra8 (memo 10 Xo10 Ho10 Ro10 (exI exB))
noncomputable def KLL (tab : List Rl) (t2 : List R2) (xl : List Xl) (lo : List LoR) : Hk := ⟨exT xl exF, ruL Tryz.prog tab t2, pureT tab, loR lo⟩
def t2D (d : Nat) : List R2 := .byt 9 23 (.y (68 + d)) (bN d - 1) (.y (70 + d)) (70 + d) :: .apx 23 (.y (70 + d)) (bN d - 1) (70 + d) (bN d) (.y (72 + d)) (72 + d) :: t2C d
def t2F : List R2 := t2D 0 ++ t2D 1
def xl16 (d : Nat) : List Xl := [⟨16, [.v (.one (.y (54 + d)))], none, .v (.one (.y (56 + d)))⟩]
def xlF : List Xl := xl16 0 ++ xl16 1 ++ (xlC 0 ++ xlC 1) ++ (xlN 0 ++ xlN 1)
def eqR (d : Nat) : List Rl := [.bin .eql (.y (50 + d)) (.y (50 + d)) (.b true)]
def few (b : Bool) : List Rl := [.bin .gtr (.y 22) (.i .i64 10) (.b b)]
def tabL : List Rl := tabM 0 ++ tabM 1 ++ few false ++ (eqR 0 ++ eqR 1) ++ (tabC 0 ++ tabC 1) ++ (tabN 0 ++ tabN 1)
/-- For the part behind Run's state z. -/
noncomputable def KF (tab : List Rl) (z : St) : Hk := KLL (tabL ++ tab) t2F xlF [rowQ z]
def args6 : List AV := [.v (.one (.y 50)), .v (.one (.y 51)), .v (.one (.y 21))]
def h06 : Hp := ⟨.lf none, 1⟩
def isTrue (r : Option (AV × Hp)) : Bool := match r with
 | some (.v (.one (.b true)), h) => true
 | _ => false
noncomputable def KB6 (tab : List Rl) : Hk := KLL tab [] [] []
/-- A text that is too long, or not. -/
def big (d : Nat) (b : Bool) : List Rl := [.len 9 (.y (50 + d)) (.y (52 + d)), .bin .gtr (.y (52 + d)) (.i .i64 500) (.b b)]
def tabB : Nat → List Rl
 | 0 => big 0 true
 | 1 => big 0 false ++ big 1 true
 | _ => big 0 false ++ big 1 false ++ few true
end Go.Ev
namespace Go.Ev
open Go Go.RowKit Go.Proofs
set_option maxRecDepth 100000
theorem ruLen_ok {S : Sy} {w0 : Base} {base : Option Addr} {m cap : Nat} (h21 : S.v 21 = .c 1) (h22 : S.v 22 = .i .i64 (m : Nat)) (hc : S.c 0 = .slice base m cap) : @RuOk S Tryz.prog w0 ruLen := by
 intro A n' h o v us hx E a w ha hr
 obtain ⟨dst, op, ty, pos, after, guard⟩ := o
 unfold ruLen at hx
 simp only at hx
 split at hx
 · rename_i c
   split at hx
   · rename_i hcal
     split at hx
     · rename_i hcc
       obtain ⟨h1, h2⟩ := hcc
       cases hx
       obtain ⟨u, hu, he⟩ := @args1 S E A n' a c _ ha h1
       have h0 := ty0 (t := 40) (l := []) h2
       have hu2 : u = .slice base m cap := by
        have h3 : @V0 S E (S.v 21) u := hu
        rw [h21] at h3
        exact h3.trans hc
       subst hu2
       refine ⟨E, w, .int .i64 (m : Nat), Pre.refl E, hr, ?_, .inl ?_⟩
       · show @V0 S E (S.v 22) _
         rw [h22]
         rfl
       · simp [execOp, resolve, hcal, he, invoke, builtin, Builtin.len_, h0, run_underlying t40, goInt]
     · cases hx
   · cases hx
 · cases hx
theorem exF_ok {S : Sy} {w0 : Base} : @CallOk S Tryz.prog w0 exF := memo2_ok Ka8_ok run_a8 fr_a8 (memo2_ok Ko10_ok run_o10 fr_o10 (exI_ok (@exB_ok S w0)))
theorem KLL_ok {S : Sy} {w0 : Base} {tab : List Rl} {t2 : List R2} {xl : List Xl} {lo : List LoR} (hp : @RuOk S Tryz.prog w0 ruLen) (ht : ∀ e ∈ tab, @RlOk S Tryz.prog e) (h2 : ∀ e ∈ t2, @R2Ok S Tryz.prog e) (hx : ∀ e ∈ xl, @XlOk S Tryz.prog w0 e) (hl : ∀ r ∈ lo, LoROk S w0 r) : @HkOk S Tryz.prog w0 (KLL tab t2 xl lo) :=
 @HkOk.mk S _ _ _ (@exT_ok S w0 Tryz.prog _ _ hx exF_ok) (by
  intro A n h o v us hx E a w ha hr
  have hx : ruL Tryz.prog tab t2 A h o = some (v, us) := hx
  unfold ruL at hx
  split at hx
  · rename_i r h1
    cases hx
    exact hp A n h o v us h1 E a w ha hr
  · exact ru2_ok ht h2 A n h o v us hx E a w ha hr) (@rpT_ok S _ _ ht) (loR_ok hl)
section
variable {S : Sy} {D : Da} {d : Nat} {w0 : Base}
theorem all_eq : casP ++ dec (D.n d) ++ [32] ++ [49] ++ [13, 10] ++ D.s d ++ [13, 10] = D.all d := by
 unfold Da.all Da.line
 simp
theorem conv_bytes {h : Hp} {l : List Nat} {n : Nat} (hn : h.n = n) (hb : n < 2048) (hl : l.length ≤ 1000000) : evConvP Tryz.prog 9 23 (ov (.s l)) = none ∧ evConvM Tryz.prog h 9 23 (ov (.s l)) = some (ov (.sl n 0 l.length (.un 0)), [.new (.row 5 1 (cellsU l))]) := by
 constructor
 · unfold evConvP
   simp only [t9, t23, ov]
 · unfold evConvM
   simp only [t9, t23, t5, ov]
   rw [hn, if_pos ⟨hb, hl⟩]
   rfl
theorem el23 : elemT Tryz.prog 23 = some 5 := by kernel_rfl
theorem z5' : (zeroT Tryz.prog 5).map (fun z => z.cells.length) = some 1 := by kernel_rfl
theorem app_bytes {h : Hp} {l : List Nat} {k n m : Nat} (hg : h.get k = some (.row 5 1 (cellsU l))) (hm : l.length = m) (h0 : m ≠ 0) (hn : h.n = n) (hb : n < 2048) (hl : m ≤ 1000000) : evAppend Tryz.prog h 23 23 (ov .nils) (ov (.sl k 0 m (.un 0))) = some (ov (.sl n 0 m (.un 0)), [.new (.row 5 1 (cellsU l))]) := by
 subst hm
 have hs : seg (cellsU l) 0 (l.length * 1) = some (cellsU l) := by
  unfold seg
  rw [if_pos (by rw [cellsU_len]; omega), List.drop_zero, List.take_of_length_le (by rw [cellsU_len]; omega)]
 unfold evAppend
 simp only [if_true, el23, ov, s5, cellsIn, hg, Option.bind_some, rowOf, hs, if_neg h0]
 unfold mkRow
 simp only [z5, b5]
 rw [hn, if_pos ⟨hb, rfl, by omega, hl, by rw [cellsU_len]; omega⟩]
 rfl
theorem bN_small (d : Nat) : 0 < bN d ∧ bN d < 813 := by
 unfold bN
 split <;> decide
theorem t2D_ok (hT : Tx D S) (hd : d < 2) : ∀ e ∈ t2D d, @R2Ok S Tryz.prog e := by
 have h1 := D.tle d
 have h2 := D.nle d
 have hb := bN_small d
 have o70 : S.o (70 + d) = .row 5 1 (cellsU (D.all d)) := hT.o d 70 hd rfl (by decide)
 have o72 : S.o (72 + d) = .row 5 1 (cellsU (D.all d)) := hT.o d 72 hd rfl (by decide)
 have y70 : @A1.den S (.y (70 + d)) = .sl (bN d - 1) 0 (16 + D.t d + D.n d) (.un 0) := hT.y hd 70 rfl (by decide) rfl
 intro e he
 rcases List.mem_cons.1 he with rfl | he
 · intro h hn
   rw [hT.y68 hd, y70, o70, all_eq, ← all_len (D := D) (d := d)]
   exact conv_bytes hn (by omega) (by rw [all_len]; omega)
 · rcases List.mem_cons.1 he with rfl | he
   · intro h hg hn
     rw [hT.y72 hd, y70, o72]
     rw [o70] at hg
     exact app_bytes hg all_len (by omega) hn (by omega) (by omega)
   · exact t2C_ok hT hd e he
theorem xl16_ok (hT : Tx D S) (hd : d < 2) : ∀ e ∈ xl16 d, @XlOk S Tryz.prog w0 e := by
 unfold xl16
 simp only [List.forall_mem_cons]
 refine ⟨?_, by simp⟩
 intro h hg E w vs hvs hrep
 obtain ⟨h', hc⟩ := text3_at (D.nle d)
 have hvs' : All2 (@VV S E) [.v (.one (@A1.den S (.y (54 + d))))] vs := hvs
 show @CallDoes S Tryz.prog w0 E 16 vs.toArray w (.v (.one (@A1.den S (.y (56 + d))))) h
 rw [hT.y54 hd] at hvs'
 rw [hT.y56 hd]
 exact @plain_call S w0 w E h h' 16 300 [.v (.one (.i .u64 (.ofNat (D.n d))))] (.v (.one (.s (dec (D.n d))))) vs hrep hvs' rfl rfl hc
theorem eqR_ok (hT : Tx D S) (hd : d < 2) : ∀ e ∈ eqR d, @RlOk S Tryz.prog e := by
 unfold eqR
 simp only [List.forall_mem_cons]
 exact ⟨rl_bin (hT.y50 hd) (hT.y50 hd) (cstb S true) (by nofun) fun t => bin_seq (by simp), by simp⟩
theorem x_app {p : Xl → Prop} {l m : List Xl} (h1 : ∀ e ∈ l, p e) (h2 : ∀ e ∈ m, p e) : ∀ e ∈ l ++ m, p e := fun e he => (List.mem_append.1 he).elim (h1 e) (h2 e)
theorem xlF_ok (hT : Tx D S) : ∀ e ∈ xlF, @XlOk S Tryz.prog w0 e :=
 x_app (x_app (x_app (xl16_ok hT (by decide)) (xl16_ok hT (by decide))) (x_app (xlC_ok hT (by decide)) (xlC_ok hT (by decide)))) (x_app (xlN_ok hT (by decide)) (xlN_ok hT (by decide)))
theorem t2F_ok (hT : Tx D S) : ∀ e ∈ t2F, @R2Ok S Tryz.prog e := fun e he => (List.mem_append.1 he).elim (t2D_ok hT (by decide) e) (t2D_ok hT (by decide) e)
theorem few_ok {m : Nat} {b : Bool} (h22 : S.v 22 = .i .i64 (m : Nat)) (h : decide (10 < m) = b) : ∀ e ∈ few b, @RlOk S Tryz.prog e := by
 unfold few
 simp only [List.forall_mem_cons]
 refine ⟨rl_bin (show @A1.den S (.y 22) = _ from h22) (cst S .i64 10) (cstb S b) (by nofun) fun t => bin_ii rfl (cmp_ok ?_), by simp⟩
 subst h
 simp
 omega
theorem tabL_ok {m : Nat} (hT : Tx D S) (h22 : S.v 22 = .i .i64 (m : Nat)) (hm : m ≤ 10) : ∀ e ∈ tabL, @RlOk S Tryz.prog e :=
 mem_app (mem_app (mem_app (mem_app (mem_app (tabM_ok hT (by decide)) (tabM_ok hT (by decide))) (few_ok h22 (by rw [decide_eq_false_iff_not]; omega))) (mem_app (eqR_ok hT (by decide)) (eqR_ok hT (by decide)))) (mem_app (tabC_ok hT (by decide)) (tabC_ok hT (by decide)))) (mem_app (tabN_ok hT (by decide)) (tabN_ok hT (by decide)))
end
/-! ### The letters of what is not taken -/
def fBd (a b : List Nat) (m : Nat) (q : Nat) : A1 := match q with
 | 21 => .c 1
 | 22 => .i .i64 (m : Nat)
 | 50 => .s a
 | 51 => .s b
 | 52 => .i .i64 (a.length : Nat)
 | 53 => .i .i64 (b.length : Nat)
 | _ => .nilp
abbrev syBd [CV] (a b : List Nat) (m : Nat) : Sy := mkSy (fBd a b m) (fun _ => .siter [] 0)
theorem big_ok {S : Sy} {d : Nat} {l : List Nat} {b : Bool} (h50 : S.v (50 + d) = .s l) (h52 : S.v (52 + d) = .i .i64 (l.length : Nat)) (h : decide (500 < l.length) = b) : ∀ e ∈ big d b, @RlOk S Tryz.prog e := by
 unfold big
 simp only [List.forall_mem_cons]
 refine ⟨rl_len (show @A1.den S (.y (50 + d)) = _ from h50) (show @A1.den S (.y (52 + d)) = _ from h52) len_s, rl_bin (show @A1.den S (.y (52 + d)) = _ from h52) (cst S .i64 500) (cstb S b) (by nofun) fun t => bin_ii rfl (cmp_ok ?_), by simp⟩
 subst h
 simp
 omega
theorem rep_none (w : World) (S : Sy) : @Rep S (Base.all w) [.none] h06 w where
 below := Kept.refl _
 len := rfl
 bound := by decide
 obj := fun k o hk ho => by rw [show h06.get k = none from Tr.get_lf D k] at ho; cases ho
 free := fun k _ _ => Tr.get_lf D k
 sep := fun k k' o o' b c c' hk _ ho _ _ _ => by rw [show h06.get k = none from Tr.get_lf D k] at ho; cases ho
 old := fun k o b c hk ho _ => by rw [show h06.get k = none from Tr.get_lf D k] at ho; cases ho
theorem isTrue_ok {r : Option (AV × Hp)} (h : isTrue r = true) : ∃ h', r = some (.v (.one (.b true)), h') := by
 unfold isTrue at h
 split at h
 · exact ⟨_, rfl⟩
 · cases h
/-- Told true; all that was, is. -/
def Tells (f : FuncId) (vs : Array Value) (W : World) : Prop := Calls Tryz.prog f vs W (fun e W' => e = .returned (.bool true) ∧ Kept (Base.all W) W')
theorem tells_of {S : Sy} {K : Hk} {W : World} {n : Nat} {xs : List AV} {h h' : Hp} {E : List Ent} {vs : List Value} {f : Nat} (hk : @HkOk S Tryz.prog (Base.all W) K) (e : callG Tryz.prog K (evG Tryz.prog K n) f xs h = some (.v (.one (.b true)), h')) (hv : All2 (@VV S E) xs vs) (hr : @Rep S (Base.all W) E h W)
  (hrun : ∀ v, (callFunc f vs.toArray).run Tryz.prog W ≠ .ok (.value v) W) : Tells f vs.toArray W := by
 rcases call_of S hk e E W vs hv hr with ⟨h1, h2⟩ | ⟨v, h1, _⟩
 · refine h2.mono ?_
   rintro e w' ⟨v, rfl, E', _, g2, g3⟩
   have g3 : v = .bool true := g3
   subst g3
   exact ⟨rfl, @Rep.below S (Base.all W) E' h' w' g2⟩
 · exact absurd h1 (hrun v)
theorem enters6 (vs : Array Value) (W : World) (v : Value) : (callFunc 6 vs).run Tryz.prog W ≠ .ok (.value v) W := by
 intro h
 simp only [callFunc, Sem.run_bind, run_program, Result.andThen_ok, Tryz.func6] at h
 cases h
/-- What the picks are in the world ahead. -/
abbrev cvOf (base : Option Addr) (m cap : Nat) : CV where
 c i := match i with
  | 0 => .slice base m cap
  | k + 1 => .pointer (base.map fun ad => ad.add k)
 one i := by
  cases i with
  | zero => rfl
  | succ k => rfl
theorem cls_of {n : Nat} (h : n ≤ 500) : ∃ k, Cls n k := by
 by_cases h1 : 33 + n ≤ 64
 · refine ⟨0, by decide, fun j hj => ?_⟩
   match j, hj with
   | 0, _ => simp; omega
 by_cases h2 : 33 + n ≤ 128
 · refine ⟨1, by decide, fun j hj => ?_⟩
   match j, hj with
   | 0, _ => simp; omega
   | 1, _ => simp; omega
 by_cases h3 : 33 + n ≤ 256
 · refine ⟨2, by decide, fun j hj => ?_⟩
   match j, hj with
   | 0, _ => simp; omega
   | 1, _ => simp; omega
   | 2, _ => simp; omega
 by_cases h4 : 33 + n ≤ 512
 · refine ⟨3, by decide, fun j hj => ?_⟩
   match j, hj with
   | 0, _ => simp; omega
   | 1, _ => simp; omega
   | 2, _ => simp; omega
   | 3, _ => simp; omega
 · refine ⟨4, by decide, fun j hj => ?_⟩
   match j, hj with
   | 0, _ => simp; omega
   | 1, _ => simp; omega
   | 2, _ => simp; omega
   | 3, _ => simp; omega
   | 4, _ => simp; omega
end Go.Ev
