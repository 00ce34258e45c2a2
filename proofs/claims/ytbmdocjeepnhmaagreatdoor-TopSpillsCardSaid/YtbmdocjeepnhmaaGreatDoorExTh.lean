/- TopSpills: from the runs to what the law tells. -/
import Derived.Test.YtbmdocjeepnhmaaGreatDoorExRi
set_option linter.unusedVariables false
set_option linter.unusedSimpArgs false
set_option linter.unusedSectionVars false
namespace Go.Ev
open Go Go.RowKit Go.Proofs
set_option maxRecDepth 1000000
theorem rep_00 (w : World) (S : Sy) : @Rep S (Base.all w) [] hp00 w where
 below := Kept.refl _
 len := rfl
 bound := by decide
 obj := fun k o hk ho => by rw [show hp00.get k = none from Tr.get_lf D k] at ho; cases ho
 free := fun k _ _ => Tr.get_lf D k
 sep := fun k k' o o' b c c' hk _ ho _ _ _ => by rw [show hp00.get k = none from Tr.get_lf D k] at ho; cases ho
 old := fun k o b c hk ho _ => by rw [show hp00.get k = none from Tr.get_lf D k] at ho; cases ho
theorem isTrue_ok {r : Option (AV × Hp)} (h : isTrue r = true) : ∃ h', r = some (.v (.one (.b true)), h') := by
 unfold isTrue at h
 split at h
 · exact ⟨_, rfl⟩
 · cases h
/-- Told true; all that was, is. -/
def Tells (f : FuncId) (vs : Array Value) (W : World) : Prop := Calls Tryz.prog f vs W (fun e W' => e = .returned (.bool true) ∧ Kept (Base.all W) W')
theorem tells_of {S : Sy} {K : Hk} {W : World} {n : Nat} {xs : List AV} {h h' : Hp} {E : List Ent} {vs : List Value} {f : Nat} (hk : @HkOk S Tryz.prog (Base.all W) K) (e : callG Tryz.prog K (evG Tryz.prog K n) f xs h = some (.v (.one (.b true)), h')) (hv : All2 (@VV S E) xs vs) (hr : @Rep S (Base.all W) E h W)
  (hrun : ∀ v, (callFunc f vs.toArray).run Tryz.prog W ≠ .ok (.value v) W) : Tells f vs.toArray W := by
 rcases call_of S hk e E W vs hv hr with ⟨h1, h2⟩ | ⟨v, h1, _⟩
 · refine h2.mono ?_
   rintro e w' ⟨v, rfl, E', _, g2, g3⟩
   have g3 : v = .bool true := g3
   subst g3
   exact ⟨rfl, @Rep.below S (Base.all W) E' h' w' g2⟩
 · exact absurd h1 (hrun v)
theorem enters3 (vs : Array Value) (W : World) (v : Value) : (callFunc 3 vs).run Tryz.prog W ≠ .ok (.value v) W := by
 intro h
 simp only [callFunc, Sem.run_bind, run_program, Result.andThen_ok, Tryz.func3] at h
 cases h
/-! ### The steps, the flows -/
def kdIn (K K' : Kd) : Bool := Nat.ble K'.la K.la && (Nat.ble K.ha K'.ha && (Nat.ble K'.lb K.lb && (Nat.ble K.hb K'.hb && (Nat.ble K'.ls K.ls && Nat.ble K.hs K'.hs))))
theorem kdIn_ok {K K' : Kd} (h : kdIn K K' = true) {D : D2} (hK : KdOk K D) : KdOk K' D := by
 unfold kdIn at h
 simp only [Bool.and_eq_true, Nat.ble_eq] at h
 obtain ⟨h1, h2, h3, h4, h5, h6⟩ := h
 obtain ⟨⟨a1, a2⟩, ⟨b1, b2⟩, ⟨c1, c2⟩⟩ := hK
 exact ⟨⟨by omega, by omega⟩, ⟨by omega, by omega⟩, ⟨by omega, by omega⟩⟩
/-- A step that is told for bounds in which these lie. -/
def StepOk (K : Kd) (p : Hp × (AV × Hp)) : Prop := ∃ K', kdIn K K' = true ∧ crcT K' = crcT K ∧ freeB p.2.2 = true ∧ runS K' p.1 p.2 = true
theorem step_of {K K' : Kd} {hs : Hp} {R : AV × Hp} (hf : freeB R.2 = true) (hr : runS K' hs R = true) (hi : kdIn K K' = true) (e1 : Nat.ble K'.ha 255 = Nat.ble K.ha 255) (e2 : Nat.ble K'.hb 255 = Nat.ble K.hb 255) : StepOk K (hs, R) :=
 ⟨K', hi, by unfold crcT; rw [e1, e2], hf, hr⟩
theorem bothB {a b : Bool} (h : (bif a then b else false) = true) : a = true ∧ b = true := by
 cases a with
 | false => cases h
 | true => exact ⟨rfl, h⟩
theorem exP_ok {K : Kd} {D : D2} (hK : KdOk K D) {z : Base} (hT : TabB z) : ∀ (l : List (Hp × (AV × Hp))), (∀ p ∈ l, StepOk K p) → @CallOk (syW D (sumOf D (crcT K))) Tryz.prog z (exP l)
 | [], _ => exS_ok
 | (hs, R) :: l, hl => by
  obtain ⟨K', h1, h2, h3, h4⟩ := hl _ List.mem_cons_self
  obtain ⟨h5, h6⟩ := bothB h4
  have hk : ∀ z, TabB z → @HkOk (syW D (sumOf D (crcT K))) Tryz.prog z (KW K' exS) := by
   intro z hz
   have h7 := KW_ok (kdIn_ok h1 hK) h5 hz (ex := exS) exS_ok
   rw [h2] at h7
   exact h7
  exact memoT_ok hT hk h6 h3 (exP_ok hK hT l fun p hp => hl p (List.mem_cons_of_mem _ hp))
/-- A flow. -/
def FlowOk (K : Kd) : Prop := ∃ l, (∀ p ∈ l, StepOk K p) ∧ flowB K l = true
theorem all6 {α : Type} {P : α → Prop} {a b c d e f : α} (h1 : P a) (h2 : P b) (h3 : P c) (h4 : P d) (h5 : P e) (h6 : P f) : ∀ p ∈ [a, b, c, d, e, f], P p := by
 intro p hp
 simp only [List.mem_cons, List.not_mem_nil, or_false] at hp
 rcases hp with rfl | rfl | rfl | rfl | rfl | rfl
 · exact h1
 · exact h2
 · exact h3
 · exact h4
 · exact h5
 · exact h6
theorem arg_0 {D : D2} {q : Nat → Nat} : @VV (syW D q) [] (argS 0) (.string (bytes (D.s 0))) := by
 letI := syW D q
 have h : ∃ x, letter (.str [.txt 0]) = some x := Option.isSome_iff_exists.1 (by decide +kernel)
 obtain ⟨x, hx⟩ := h
 have e : argS 0 = .v (.one x) := by unfold argS; rw [hx]; rfl
 rw [e]
 show V0 [] (@A1.den (syW D q) x) _
 rw [show @A1.den (syW D q) x = .s (strB D q [.txt 0]) from letter_ok (D := D) (q := q) hx]
 have e2 : strB D q [.txt 0] = D.s 0 := by simp [strB, Sym.bytes]
 rw [e2]
 exact ⟨rfl, D.byte 0⟩
theorem arg_1 {D : D2} {q : Nat → Nat} : @VV (syW D q) [] (argS 1) (.string (bytes (D.s 1))) := by
 letI := syW D q
 have h : ∃ x, letter (.str [.txt 1]) = some x := Option.isSome_iff_exists.1 (by decide +kernel)
 obtain ⟨x, hx⟩ := h
 have e : argS 1 = .v (.one x) := by unfold argS; rw [hx]; rfl
 rw [e]
 show V0 [] (@A1.den (syW D q) x) _
 rw [show @A1.den (syW D q) x = .s (strB D q [.txt 1]) from letter_ok (D := D) (q := q) hx]
 have e2 : strB D q [.txt 1] = D.s 1 := by simp [strB, Sym.bytes]
 rw [e2]
 exact ⟨rfl, D.byte 1⟩
theorem flow_tells {K : Kd} (hf : FlowOk K) {D : D2} (hK : KdOk K D) {W : World} (hT : TabB (Base.all W)) : Tells 3 #[.string (bytes (D.s 0)), .string (bytes (D.s 1))] W := by
 obtain ⟨l, hl, hf⟩ := hf
 obtain ⟨h1, h2⟩ := bothB hf
 obtain ⟨h', he⟩ := isTrue_ok h2
 exact tells_of (vs := [.string (bytes (D.s 0)), .string (bytes (D.s 1))]) (S := syW D (sumOf D (crcT K))) (KW_ok hK h1 hT (exP_ok hK hT l hl)) he ⟨arg_0, arg_1, trivial⟩ (rep_00 W _) (enters3 _ _)
/-! ### Texts that are too long -/
theorem len_s {l : List Nat} : evLenP Tryz.prog 9 (ov (.s l)) = some (ov (.i .i64 (l.length : Nat))) := by
 unfold evLenP
 simp only [t9, ov]
abbrev syB (a b : List Nat) : Sy where
 v q := match q with
  | 0 => .s a
  | 1 => .s b
  | 2 => .i .i64 (a.length : Nat)
  | 3 => .i .i64 (b.length : Nat)
  | _ => .nilp
 o _ := .siter [] 0
 c _ := .bool true
 one _ := rfl
 vb i j := by
  split <;> (intro h; cases h)
 vc i := by
  split <;> (intro h; cases h)
 ob _ _ := by intro h; cases h
 oc _ _ _ := by intro h; cases h
 oi _ _ _ := by intro h; cases h
noncomputable def KB3 (tab : List Rl) : Hk := ⟨exS, ruAll Tryz.prog tab, rpOf (pureT tab), lo0⟩
def big3 (d : Nat) (b : Bool) : List Rl := [.len 9 (.y d) (.y (2 + d)), .bin .gtr (.y (2 + d)) (.i .i64 1000) (.b b)]
def args3 : List AV := [.v (.one (.y 0)), .v (.one (.y 1))]
theorem bad_0 : isTrue (callG Tryz.prog (KB3 (big3 0 true)) (evG Tryz.prog (KB3 (big3 0 true)) 3000) 3 args3 hp00) = true := by kernel_rfl
theorem bad_1 : isTrue (callG Tryz.prog (KB3 (big3 0 false ++ big3 1 true)) (evG Tryz.prog (KB3 (big3 0 false ++ big3 1 true)) 3000) 3 args3 hp00) = true := by kernel_rfl
theorem big3_ok {S : Sy} {d : Nat} {l : List Nat} {b : Bool} (h1 : S.v d = .s l) (h2 : S.v (2 + d) = .i .i64 (l.length : Nat)) (h : decide (1000 < l.length) = b) : ∀ e ∈ big3 d b, @RlOk S Tryz.prog e := by
 unfold big3
 simp only [List.forall_mem_cons]
 refine ⟨?_, ⟨fun t => ?_, ?_⟩, by simp⟩
 · show evLenP Tryz.prog 9 (ov (S.v d)) = some (ov (S.v (2 + d)))
   rw [h1, h2]
   exact len_s
 · show evBin Tryz.prog .gtr t (ov (S.v (2 + d))) (ov (.i .i64 1000)) = some (ov (.b b))
   rw [h2]
   unfold evBin
   have e : cmpI .gtr (l.length : Nat) 1000 = some b := by
    subst h
    simp only [cmpI, Option.some.injEq]
    by_cases hb : 1000 < l.length
    · rw [decide_eq_true hb, decide_eq_true (by omega)]
    · rw [decide_eq_false hb, decide_eq_false (by omega)]
   simp only [ov, if_true, e, Option.map_some]
 · show S.v (2 + d) ≠ .nili
   rw [h2]
   intro h
   cases h
theorem bad_tells {a b : List Nat} {tab : List Rl} (hb : isTrue (callG Tryz.prog (KB3 tab) (evG Tryz.prog (KB3 tab) 3000) 3 args3 hp00) = true) (ht : ∀ e ∈ tab, @RlOk (syB a b) Tryz.prog e) (ha : ∀ c ∈ a, c < 256) (hb' : ∀ c ∈ b, c < 256) {W : World} : Tells 3 #[.string (bytes a), .string (bytes b)] W := by
 obtain ⟨h', he⟩ := isTrue_ok hb
 exact tells_of (vs := [.string (bytes a), .string (bytes b)]) (S := syB a b) (@HkOk.mk (syB a b) _ _ _ exS_ok (@ruAll_ok (syB a b) _ _ _ ht) (@rpT_ok (syB a b) _ _ ht) (@lo0_ok (syB a b) _)) he ⟨⟨rfl, ha⟩, ⟨rfl, hb'⟩, trivial⟩ (rep_00 W _) (enters3 _ _)
/-- There is a flow for such lengths. -/
def Picked (n0 n1 : Nat) : Prop := ∃ K, FlowOk K ∧ (K.la ≤ n0 ∧ n0 ≤ K.ha) ∧ (K.lb ≤ n1 ∧ n1 ≤ K.hb) ∧ (K.ls ≤ n0 + n1 ∧ n0 + n1 ≤ K.hs)
theorem pk {la ha lb hb ls hs n0 n1 : Nat} (f : FlowOk ⟨la, ha, lb, hb, ls, hs⟩) (h : (la ≤ n0 ∧ n0 ≤ ha) ∧ (lb ≤ n1 ∧ n1 ≤ hb) ∧ (ls ≤ n0 + n1 ∧ n0 + n1 ≤ hs)) : Picked n0 n1 := ⟨_, f, h⟩
theorem tells_all (hp : ∀ n0 n1, n0 ≤ 1000 → n1 ≤ 1000 → Picked n0 n1) {W : World} (hT : TabB (Base.all W)) {a b : List Nat} (ha : ∀ c ∈ a, c < 256) (hb : ∀ c ∈ b, c < 256) : Tells 3 #[.string (bytes a), .string (bytes b)] W := by
 by_cases h1 : 1000 < a.length
 · exact bad_tells bad_0 (big3_ok (d := 0) rfl rfl (decide_eq_true h1)) ha hb
 by_cases h2 : 1000 < b.length
 · exact bad_tells bad_1 (fun e he => (List.mem_append.1 he).elim (big3_ok (d := 0) rfl rfl (decide_eq_false h1) e) (big3_ok (d := 1) rfl rfl (decide_eq_true h2) e)) ha hb
 let D : D2 := ⟨fun d => match d with | 0 => a | _ => b, fun d => match d with | 0 => ha | _ + 1 => hb, fun d => match d with | 0 => (by omega : a.length ≤ 1000) | _ + 1 => (by omega : b.length ≤ 1000)⟩
 obtain ⟨K, hf, k1, k2, k3⟩ := hp a.length b.length (by omega) (by omega)
 exact flow_tells (D := D) hf ⟨k1, k2, k3⟩ hT
end Go.Ev
