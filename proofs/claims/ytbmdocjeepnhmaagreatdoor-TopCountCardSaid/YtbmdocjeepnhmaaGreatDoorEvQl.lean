/- The letters of TopCount's server: what they stand for; the rows of a pass's tables are right. -/
import Derived.Test.YtbmdocjeepnhmaaGreatDoorEvTb
import Derived.Test.YtbmdocjeepnhmaaGreatDoorEvNum
set_option linter.unusedVariables false
set_option linter.unusedSimpArgs false
set_option linter.unusedSectionVars false
namespace Go.Ev
open Go Go.RowKit Go.Proofs
def nbA (x : A1) : A1 := match x with
 | .y _ => .nilp
 | .c 0 => .nilp
 | x => x
def nbO (x : AO) : AO := match x with
 | .y _ => .siter [] 0
 | .clo _ _ => .siter [] 0
 | .ifc _ _ => .siter [] 0
 | x => x
/-- What is known of values that no name stands for. -/
class CV where
 c : Nat → Value
 one : ∀ i, (c i).oneCell' = true
abbrev mkSy [CV] (f : Nat → A1) (g : Nat → AO) : Sy where
 v i := nbA (f i)
 o i := nbO (g i)
 c := CV.c
 one := CV.one
 vb i j := by
  unfold nbA
  split
  · intro h; cases h
  · intro h; cases h
  · rename_i h1 h2
    exact fun h => h1 j h
 vc i := by
  unfold nbA
  split
  · intro h; cases h
  · intro h; cases h
  · rename_i h1 h2
    exact fun h => h2 h
 ob i j := by
  cases g i <;> simp [nbO]
 oc i f l := by
  cases g i <;> simp [nbO]
 oi i t x := by
  cases g i <;> simp [nbO]
def repL (r : Nat) (l : List Nat) : List Nat := (List.replicate r l).flatten
/-- Lines that came, and that wait still, by connection. -/
structure Cn where
 t : Nat → Nat
 r : Nat → Nat
/-- How many were done; their sum. -/
def Cn.dn (s : Cn) : Nat := (s.t 2 - s.r 2) + (s.t 3 - s.r 3) + (s.t 4 - s.r 4)
def Cn.vl (s : Cn) : Nat := (s.t 2 - s.r 2) + 2 * (s.t 3 - s.r 3) + 3 * (s.t 4 - s.r 4)
def Cn.Ok (s : Cn) : Prop := ∀ c, c = 2 ∨ c = 3 ∨ c = 4 → s.r c ≤ s.t c ∧ s.t c ≤ 12
/-- The bytes that wait at a connection. -/
def bufP (t r c : Nat) : A1 := bif Nat.beq t 0 then .nils else bif Nat.beq r 0 then .stl (bufN c) (18 * (t - 1)) 1 18 (18 * (t - 1)) else .sl (bufN c) (18 * (t - r)) (18 * r) (.un (18 * (t - r)))
/-- Their block. -/
def bufO (t c : Nat) : AO := bif Nat.beq t 0 then .row 5 1 [.i .u8 (spB c)] else .row 5 1 (cellsU (repL t (lineC c)))
def fSrv (s : Cn) (i : Nat) : A1 := match i with
 | 0 => .i .u64 ((1 + s.dn : Nat) : Int)
 | 1 => .s (txt s.vl)
 | 2 => .sl 591 0 (1 + s.dn) (.un 0)
 | 31 => .nils
 | 32 => bufP (s.t 2) (s.r 2) 2
 | 33 => bufP (s.t 3) (s.r 3) 3
 | 34 => bufP (s.t 4) (s.r 4) 4
 | _ => .nilp
def logO (n : Nat) : List A1 := List.replicate (n * 18) (.c 0)
def gSrv (s : Cn) (i : Nat) : AO := match i with
 | 0 => .row 71 18 (logO (1 + s.dn))
 | 12 => bufO (s.t 2) 2
 | 13 => bufO (s.t 3) 3
 | 14 => bufO (s.t 4) 4
 | _ => .siter [] 0
/-- The picks: the slice; where each stands; a block. -/
structure Pk where
 sl : A1
 at_ : Nat → A1
 o : AO
/-- The letters of a pass of Run. -/
def fR (s : Cn) (ps : List Int) (pk : Pk) (i n c : Nat) (q : Nat) : A1 := match q with
 | 4 => .sl (bufN c) (18 * (s.t c - s.r c)) 17 (.un (18 * (s.t c - s.r c)))
 | 5 => .sl (bufN c) (18 * (s.t c - s.r c) + 16) 1 (.un (18 * (s.t c - s.r c) + 16))
 | 6 => .sl (bufN c) (18 * (s.t c - s.r c)) 16 (.un (18 * (s.t c - s.r c)))
 | 7 => bufP (s.t c) (s.r c - 1) c
 | 8 => .i .u64 (s.vl : Nat)
 | 9 => .i .u64 ((s.vl + (c - 1) : Nat) : Int)
 | 10 => .s (txt (s.vl + (c - 1)))
 | 11 => .i .u64 ((1 + s.dn + 1 : Nat) : Int)
 | 12 => .sl 880 0 (1 + s.dn + 1) (.un 0)
 | 13 => .i .i64 ((txt (s.vl + (c - 1))).length : Nat)
 | 14 => .i .i64 (33 + ((txt (s.vl + (c - 1))).length : Nat) : Int)
 | 21 => pk.sl
 | 22 => .i .i64 (ps.length : Nat)
 | 23 => .i .i64 (i : Nat)
 | 24 => pk.at_ i
 | 25 => .i .i64 (ps.getD i 0)
 | 26 => .i .i64 ((i + 1 : Nat) : Int)
 | 27 => .i .i64 (n : Nat)
 | 28 => .i .i64 ((n + 1 : Nat) : Int)
 | q => fSrv s q
def gR (s : Cn) (ps : List Int) (pk : Pk) (c : Nat) (q : Nat) : AO := match q with
 | 2 => .row 71 18 (logO (1 + s.dn) ++ entryC c)
 | 20 => pk.o
 | q => gSrv s q
abbrev syR [CV] (s : Cn) (ps : List Int) (pk : Pk) (i n c : Nat) : Sy := mkSy (fR s ps pk i n c) (gR s ps pk c)
theorem txt_len (v : Nat) : (txt v).length = 1 ∨ (txt v).length = 2 := by
 unfold txt
 cases Nat.blt v 10
 · exact .inr rfl
 · exact .inl rfl
theorem t23 : Tryz.prog.underlying 23 = some (.slice 5) := by kernel_rfl
theorem t5 : Tryz.prog.underlying 5 = some (.int .u8) := by kernel_rfl
theorem t9 : Tryz.prog.underlying 9 = some .string := by kernel_rfl
theorem t40 : Tryz.prog.underlying 40 = some (.slice 3) := by kernel_rfl
theorem t58 : Tryz.prog.underlying 58 = some (.slice 71) := by kernel_rfl
theorem s3 : sizeT Tryz.prog 3 = some 1 := by kernel_rfl
theorem g3 : isAggT Tryz.prog 3 = some false := by kernel_rfl
theorem s5 : sizeT Tryz.prog 5 = some 1 := by kernel_rfl
theorem s71 : sizeT Tryz.prog 71 = some 18 := by kernel_rfl
theorem slc_un {k o n j a b : Nat} {lo hi : Option AV} (h1 : a ≤ b ∧ b ≤ n ∧ a < n) (hlo : bnd 0 lo = some a) (hhi : bnd n hi = some b) : evSlice Tryz.prog 23 (ov (.sl k o n (.un j))) lo hi none = some (ov (.sl k (o + a * 1) (b - a) (.un (j + a)))) := by
 unfold evSlice
 simp only [t23, s5, ov, hlo, hhi]
 rw [if_pos h1]
theorem slc_end {k o n j : Nat} {lo hi : Option AV} (hlo : bnd 0 lo = some n) (hhi : bnd n hi = some n) : evSlice Tryz.prog 23 (ov (.sl k o n (.un j))) lo hi none = some (ov (.stl k o 1 n j)) := by
 unfold evSlice
 simp only [t23, s5, ov, hlo, hhi]
 rw [if_neg (by omega), if_pos (by simp)]
theorem len_sl {t e : TypeId} (ht : Tryz.prog.underlying t = some (.slice e)) {k o n : Nat} {q : CapE} : evLenP Tryz.prog t (ov (.sl k o n q)) = some (ov (.i .i64 n)) := by
 unfold evLenP
 simp only [ht, ov, lenIn]
 rfl
theorem conv_none {x : AV} : evConvP Tryz.prog 23 9 x = none := by
 unfold evConvP
 simp only [t23, t9]
theorem conv_sl {h : Hp} {k o n : Nat} {q : CapE} {l : List A1} {cs : List A1} {m : List Nat} (hg : h.get k = some (.row 5 1 l)) (hs : seg l o n = some cs) (hm : u8s cs = some m) : evConvM Tryz.prog h 23 9 (ov (.sl k o n q)) = some (ov (.s m), []) := by
 unfold evConvM
 simp only [t23, t9, t5, ov, cellsIn, hg, Option.bind_some, rowOf, Nat.mul_one, hs, hm, Option.map_some]
def isCmp : BinOp → Bool
 | .eql => true
 | .lss => true
 | .leq => true
 | .gtr => true
 | .geq => true
 | _ => false
theorem bin_ii {op : BinOp} {t : TypeId} {k : IntKind} {a b : Int} {r : Bool} (ho : isCmp op = true) (h : cmpI op a b = some r) : evBin Tryz.prog op t (ov (.i k a)) (ov (.i k b)) = some (ov (.b r)) := by
 cases op <;> first | (cases ho; done) | (unfold evBin; simp only [ov, if_true, h, Option.map_some])
theorem bin_add {t : TypeId} {k : IntKind} {a b c : Int} (h : k.wrap (a + b) = c) : evBin Tryz.prog .add t (ov (.i k a)) (ov (.i k b)) = some (ov (.i k c)) := by
 unfold evBin
 simp only [ov, if_true, h]
theorem bin_rem {t : TypeId} {k : IntKind} {a b c : Int} (hb : b ≠ 0) (h : a.tmod b = c) : evBin Tryz.prog .rem t (ov (.i k a)) (ov (.i k b)) = some (ov (.i k c)) := by
 unfold evBin
 simp only [ov, if_true, if_neg hb, h]
noncomputable def z71v : A2 := (zeroT Tryz.prog 71).getD (.one .nilp)
theorem z71 : zeroT Tryz.prog 71 = some z71v := by
 have h : (zeroT Tryz.prog 71).isSome = true := by kernel_rfl
 unfold z71v
 cases hz : zeroT Tryz.prog 71 with
 | none => rw [hz] at h; cases h
 | some v => rfl
theorem zl71 : z71v.cells.length = 18 := by kernel_rfl
noncomputable def b71v : Nat := (bytesT Tryz.prog 71).getD 0
theorem b71 : bytesT Tryz.prog 71 = some b71v := by
 have h : (bytesT Tryz.prog 71).isSome = true := by kernel_rfl
 unfold b71v
 cases hz : bytesT Tryz.prog 71 with
 | none => rw [hz] at h; cases h
 | some v => rfl
theorem b71l : Nat.ble b71v 1000 = true := by kernel_rfl
theorem u8s_cells : ∀ (l : List Nat), (∀ x ∈ l, x < 256) → u8s (cellsU l) = some l
 | [], _ => rfl
 | a :: l, h => by
  show (bif Nat.blt a 256 then (u8s (cellsU l)).map fun m => a :: m else none) = _
  rw [u8s_cells l fun x hx => h x (List.mem_cons_of_mem _ hx), show Nat.blt a 256 = true from Nat.ble_eq_true_of_le (h a List.mem_cons_self)]
  rfl
theorem line_lt {c : Nat} (hc : c = 2 ∨ c = 3 ∨ c = 4) : ∀ x ∈ lineC c, x < 256 := by
 rcases hc with rfl | rfl | rfl <;> decide
theorem rep_lt {c r : Nat} (hc : c = 2 ∨ c = 3 ∨ c = 4) : ∀ x ∈ repL r (lineC c), x < 256 := by
 intro x hx
 unfold repL at hx
 obtain ⟨l, h1, h2⟩ := List.mem_flatten.1 hx
 rw [List.mem_replicate] at h1
 rw [h1.2] at h2
 exact line_lt hc x h2
theorem idx_line {c : Nat} (hc : c = 2 ∨ c = 3 ∨ c = 4) (l : List Nat) : idxB 10 (lineC c ++ l) 0 = 17 := by
 rcases hc with rfl | rfl | rfl <;> rfl
theorem line_len {c : Nat} (hc : c = 2 ∨ c = 3 ∨ c = 4) : (lineC c).length = 18 := by rcases hc with rfl | rfl | rfl <;> rfl
theorem repL_len {c : Nat} (hc : c = 2 ∨ c = 3 ∨ c = 4) : ∀ r, (repL r (lineC c)).length = 18 * r
 | 0 => rfl
 | r + 1 => by
  have := repL_len hc r
  unfold repL at *
  rw [List.replicate_succ, List.flatten_cons, List.length_append, this, line_len hc]
  omega
theorem repL_drop {c : Nat} (hc : c = 2 ∨ c = 3 ∨ c = 4) : ∀ (d r : Nat), (repL (d + r) (lineC c)).drop (18 * d) = repL r (lineC c)
 | 0, r => by simp
 | d + 1, r => by
  have ih := repL_drop hc d r
  have h1 : repL (d + 1 + r) (lineC c) = lineC c ++ repL (d + r) (lineC c) := by
   unfold repL
   rw [show d + 1 + r = (d + r) + 1 by omega, List.replicate_succ, List.flatten_cons]
  rw [h1, List.drop_append, line_len hc, List.drop_of_length_le (by rw [line_len hc]; omega), List.nil_append, show 18 * (d + 1) - 18 = 18 * d by omega]
  exact ih
/-- What a pass with a line needs. -/
structure Good1 (s : Cn) (c : Nat) : Prop where
 hc : c = 2 ∨ c = 3 ∨ c = 4
 ok : s.Ok
 r : 0 < s.r c
section
variable {s : Cn} {ps : List Int} {pk : Pk} {i n c : Nat}
theorem Good1.dn (g : Good1 s c) : s.dn ≤ 35 := by
 have h2 := g.ok 2 (by simp)
 have h3 := g.ok 3 (by simp)
 have h4 := g.ok 4 (by simp)
 have hr := g.r
 unfold Cn.dn
 rcases g.hc with rfl | rfl | rfl <;> omega
theorem Good1.vl (g : Good1 s c) : s.vl + 3 < 76 ∧ s.vl + (c - 1) < 73 := by
 have h2 := g.ok 2 (by simp)
 have h3 := g.ok 3 (by simp)
 have h4 := g.ok 4 (by simp)
 have hr := g.r
 unfold Cn.vl
 rcases g.hc with rfl | rfl | rfl <;> constructor <;> omega
theorem Good1.p (g : Good1 s c) : bufP (s.t c) (s.r c) c = .sl (bufN c) (18 * (s.t c - s.r c)) (18 * s.r c) (.un (18 * (s.t c - s.r c))) := by
 have h := g.ok c g.hc
 have hr := g.r
 have e1 : Nat.beq (s.t c) 0 = false := by cases hb : Nat.beq _ 0 with | false => rfl | true => have := Nat.eq_of_beq_eq_true hb; omega
 have e2 : Nat.beq (s.r c) 0 = false := by cases hb : Nat.beq _ 0 with | false => rfl | true => have := Nat.eq_of_beq_eq_true hb; omega
 simp only [bufP, e1, e2, cond_false]
theorem Good1.o (g : Good1 s c) : bufO (s.t c) c = .row 5 1 (cellsU (repL (s.t c) (lineC c))) := by
 have h := g.ok c g.hc
 have hr := g.r
 have e1 : Nat.beq (s.t c) 0 = false := by cases hb : Nat.beq _ 0 with | false => rfl | true => have := Nat.eq_of_beq_eq_true hb; omega
 simp only [bufO, e1, cond_false]
theorem v3c [CV] (g : Good1 s c) : (syR s ps pk i n c).v (30 + c) = .sl (bufN c) (18 * (s.t c - s.r c)) (18 * s.r c) (.un (18 * (s.t c - s.r c))) := by
 have hp := g.p
 rcases g.hc with rfl | rfl | rfl <;> (show nbA (bufP _ _ _) = _; rw [hp]; rfl)
theorem o3c [CV] (g : Good1 s c) : (syR s ps pk i n c).o (10 + c) = AO.row 5 1 (cellsU (repL (s.t c) (lineC c))) := by
 have hp := g.o
 rcases g.hc with rfl | rfl | rfl <;> (show nbO (bufO _ _) = _; rw [hp]; rfl)
theorem cellsU_drop (l : List Nat) (k : Nat) : (cellsU l).drop k = cellsU (l.drop k) := by unfold cellsU; rw [List.map_drop]
theorem cellsU_take (l : List Nat) (k : Nat) : (cellsU l).take k = cellsU (l.take k) := by unfold cellsU; rw [List.map_take]
theorem cellsU_len (l : List Nat) : (cellsU l).length = l.length := by simp [cellsU]
/-- What waits, from where the bytes are not used up. -/
theorem seg_wait (g : Good1 s c) (a m : Nat) (h : a + m ≤ 18 * s.r c) : seg (cellsU (repL (s.t c) (lineC c))) (18 * (s.t c - s.r c) + a) m = some (cellsU (((repL (s.r c) (lineC c)).drop a).take m)) := by
 have ho := g.ok c g.hc
 have hd := repL_drop g.hc (s.t c - s.r c) (s.r c)
 rw [show s.t c - s.r c + s.r c = s.t c by omega] at hd
 unfold seg
 rw [if_pos (by rw [cellsU_len, repL_len g.hc]; omega), cellsU_drop, cellsU_take, ← List.drop_drop, hd]
theorem seg_line (g : Good1 s c) (a m : Nat) (h : a + m ≤ 18) : seg (cellsU (repL (s.t c) (lineC c))) (18 * (s.t c - s.r c) + a) m = some (cellsU (((lineC c).drop a).take m)) := by
 have hr := g.r
 rw [seg_wait g a m (by omega)]
 have h1 : repL (s.r c) (lineC c) = lineC c ++ repL (s.r c - 1) (lineC c) := by
  obtain ⟨k, hk⟩ : ∃ k, s.r c = k + 1 := ⟨s.r c - 1, by omega⟩
  rw [hk]
  unfold repL
  rw [List.replicate_succ, List.flatten_cons]
  rfl
 rw [h1, List.drop_append_of_le_length (by rw [line_len g.hc]; omega), List.take_append_of_le_length (by rw [List.length_drop, line_len g.hc]; omega)]
theorem wrap64 {a : Int} (h : 0 ≤ a ∧ a < 1000) : IntKind.wrap .u64 a = a := by
 simp [IntKind.wrap, IntKind.bits, IntKind.signed]
 omega
theorem wrapI64 {a : Int} (h : 0 ≤ a ∧ a < 1000) : IntKind.wrap .i64 a = a := by
 simp [IntKind.wrap, IntKind.bits, IntKind.signed]
 omega
theorem tabP_ok [CV] (g : Good1 s c) (hn : n < 100) : ∀ e ∈ tabP c, @RlOk (syR s ps pk i n c) Tryz.prog e := by
 have h3 := v3c (ps := ps) (pk := pk) (i := i) (n := n) g
 have hr := g.r
 have hok := g.ok c g.hc
 have hdn := g.dn
 have hvl := g.vl
 have htl := txt_len (s.vl + (c - 1))
 intro e he
 unfold tabP at he
 simp only [List.mem_cons, List.mem_nil_iff, or_false] at he
 rcases he with rfl | rfl | rfl | rfl | rfl | rfl | rfl | rfl | rfl | rfl | rfl | rfl | rfl | rfl | rfl | rfl | rfl | rfl | rfl | rfl
 · show evSlice Tryz.prog 23 (ov ((syR s ps pk i n c).v (30 + c))) none (some (ov (.i .i64 17))) none = some (ov (.sl (bufN c) (18 * (s.t c - s.r c)) 17 (.un (18 * (s.t c - s.r c)))))
   rw [h3, slc_un (a := 0) (b := 17) (by omega) rfl rfl]
   rfl
 · exact len_sl t23
 · show evSlice Tryz.prog 23 (ov (.sl (bufN c) (18 * (s.t c - s.r c)) 17 (.un (18 * (s.t c - s.r c))))) (some (ov (.i .i64 16))) none none = some (ov (.sl (bufN c) (18 * (s.t c - s.r c) + 16) 1 (.un (18 * (s.t c - s.r c) + 16))))
   rw [slc_un (a := 16) (b := 17) (by omega) rfl rfl]
 · show evSlice Tryz.prog 23 (ov (.sl (bufN c) (18 * (s.t c - s.r c)) 17 (.un (18 * (s.t c - s.r c))))) none (some (ov (.i .i64 16))) none = some (ov (.sl (bufN c) (18 * (s.t c - s.r c)) 16 (.un (18 * (s.t c - s.r c)))))
   rw [slc_un (a := 0) (b := 16) (by omega) rfl rfl]
   rfl
 · show evSlice Tryz.prog 23 (ov ((syR s ps pk i n c).v (30 + c))) (some (ov (.i .i64 18))) none none = some (ov (nbA (bufP (s.t c) (s.r c - 1) c)))
   rw [h3]
   have e1 : Nat.beq (s.t c) 0 = false := by cases hb : Nat.beq _ 0 with | false => rfl | true => have := Nat.eq_of_beq_eq_true hb; omega
   by_cases hr1 : s.r c = 1
   · rw [hr1]
     have : bufP (s.t c) (1 - 1) c = .stl (bufN c) (18 * (s.t c - 1)) 1 18 (18 * (s.t c - 1)) := by simp only [bufP, e1, Nat.sub_self, Nat.beq_refl, cond_false, cond_true]
     rw [this]
     exact slc_end rfl rfl
   · have e2 : Nat.beq (s.r c - 1) 0 = false := by cases hb : Nat.beq _ 0 with | false => rfl | true => have := Nat.eq_of_beq_eq_true hb; omega
     have : bufP (s.t c) (s.r c - 1) c = .sl (bufN c) (18 * (s.t c - (s.r c - 1))) (18 * (s.r c - 1)) (.un (18 * (s.t c - (s.r c - 1)))) := by simp only [bufP, e1, e2, cond_false]
     rw [this, slc_un (a := 18) (b := 18 * s.r c) (by omega) rfl rfl, show 18 * s.r c - 18 = 18 * (s.r c - 1) by omega, Nat.mul_one, show 18 * (s.t c - s.r c) + 18 = 18 * (s.t c - (s.r c - 1)) by omega]
     rfl
 · refine ⟨conv_none, fun h hg => ?_⟩
   show evConvM Tryz.prog h 23 9 (ov (.sl (bufN c) (18 * (s.t c - s.r c) + 16) 1 (.un (18 * (s.t c - s.r c) + 16)))) = some (ov (.s [13]), [])
   refine conv_sl (cs := [.i .u8 13]) (hg.trans (congrArg some (o3c g))) ?_ rfl
   rw [seg_line g 16 1 (by omega)]
   rcases g.hc with rfl | rfl | rfl <;> rfl
 · refine ⟨conv_none, fun h hg => ?_⟩
   show evConvM Tryz.prog h 23 9 (ov (.sl (bufN c) (18 * (s.t c - s.r c)) 16 (.un (18 * (s.t c - s.r c))))) = some (ov (.s (lineB c)), [])
   refine conv_sl (cs := cellsU (lineB c)) (hg.trans (congrArg some (o3c g))) ?_ ?_
   · have := seg_line g 0 16 (by omega)
     rw [Nat.add_zero] at this
     rw [this]
     rcases g.hc with rfl | rfl | rfl <;> rfl
   · rcases g.hc with rfl | rfl | rfl <;> rfl
 · exact len_sl t23
 · exact ⟨fun t => bin_ii (by decide) (congrArg some (by
    show (((1 + s.dn : Nat) : Int) == 18446744073709551615) = false
    rw [beq_eq_false_iff_ne]
    omega)), by intro h; cases h⟩
 · exact ⟨fun t => bin_ii (by decide) (congrArg some (by
    show (((1 + s.dn : Nat) : Int) == 64) = false
    rw [beq_eq_false_iff_ne]
    omega)), by intro h; cases h⟩
 · exact ⟨fun t => bin_add ((wrap64 (by omega)).trans (by omega)), by intro h; cases h⟩
 · refine ⟨fun t => bin_add ?_, by intro h; cases h⟩
   show IntKind.wrap .u64 ((s.vl : Int) + ((c : Int) - 1)) = ((s.vl + (c - 1) : Nat) : Int)
   rcases g.hc with rfl | rfl | rfl <;> exact (wrap64 (by omega)).trans (by omega)
 · show evLenP Tryz.prog 9 (ov (.s (txt (s.vl + (c - 1))))) = some (ov (.i .i64 ((txt (s.vl + (c - 1))).length : Nat)))
   unfold evLenP
   simp only [t9, ov]
 · exact ⟨fun t => bin_ii (by decide) (congrArg some (by
    show decide (((txt (s.vl + (c - 1))).length : Int) ≤ 1024) = true
    rw [decide_eq_true_eq]
    omega)), by intro h; cases h⟩
 · exact ⟨fun t => bin_ii (by decide) (congrArg some (by
    show decide (((1 + s.dn + 1 : Nat) : Int) > 0) = true
    rw [decide_eq_true_eq]
    omega)), by intro h; cases h⟩
 · exact ⟨fun t => bin_add (wrapI64 (by omega)), by intro h; cases h⟩
 · exact ⟨fun t => bin_ii (by decide) (congrArg some (by
    show decide ((33 + ((txt (s.vl + (c - 1))).length : Nat) : Int) ≤ 64) = true
    rw [decide_eq_true_eq]
    omega)), by intro h; cases h⟩
 · exact ⟨fun t => bin_ii (by decide) (congrArg some (by
    show decide ((33 + ((txt (s.vl + (c - 1))).length : Nat) : Int) ≥ 0) = true
    rw [decide_eq_true_eq]
    omega)), by intro h; cases h⟩
 · intro h q o cp hg hn' hx
   left
   have hx : cellsIn h 18 (ov (.sl q o 1 cp)) = some (entryC c) := hx
   have hg : h.get 591 = some (.row 71 18 (logO (1 + s.dn))) := hg
   show evAppend Tryz.prog h 58 58 (ov (.sl 591 0 (1 + s.dn) (.un 0))) (ov (.sl q o 1 cp)) = some (ov (.sl 880 0 (1 + s.dn + 1) (.un 0)), [.del 591, .new (.row 71 18 (logO (1 + s.dn) ++ entryC c))])
   have hll : (logO (1 + s.dn)).length = (1 + s.dn) * 18 := by simp [logO]
   unfold evAppend
   simp only [elemT, t58, ov, s71, hg, if_true] at hx ⊢
   rw [hx]
   simp only [hll, Nat.le_refl, and_self, if_true]
   rw [if_neg (by omega)]
   rw [show (logO (1 + s.dn)).take ((1 + s.dn) * 18) = logO (1 + s.dn) from List.take_of_length_le (by omega)]
   unfold mkRow
   simp only [z71, b71, hn']
   have he : (entryC c).length = 18 := rfl
   rw [if_pos ⟨by decide, zl71, by have := Nat.le_of_ble_eq_true b71l; have := Nat.mul_le_mul (show 1 + s.dn + 1 ≤ 101 by omega) this; omega, by omega, by rw [List.length_append, hll, he]; omega⟩]
   rfl
 · exact ⟨fun t => bin_add ((wrapI64 (by omega)).trans (by omega)), by intro h; cases h⟩
theorem xlP_ok [CV] {w0 : World} (g : Good1 s c) : ∀ e ∈ xlP c, @XlOk (syR s ps pk i n c) Tryz.prog w0 e := by
 intro e he
 unfold xlP at he
 simp only [List.mem_cons, List.mem_nil_iff, or_false] at he
 have hv := g.vl
 have hc := g.hc
 rcases he with rfl | rfl | rfl
 · intro h _ E w vs hvs hr
   obtain ⟨h', hn⟩ := @num_at (syR s ps pk i n c) s.vl (by omega)
   exact @plain_call (syR s ps pk i n c) w0 w E h h' 285 300 _ _ vs hr hvs rfl rfl hn
 · intro h _ E w vs hvs hr
   obtain ⟨h', hn⟩ := @txt_at (syR s ps pk i n c) (s.vl + (c - 1)) (by omega)
   exact @plain_call (syR s ps pk i n c) w0 w E h h' 286 300 _ _ vs hr hvs rfl rfl hn
 · intro h hat E w vs hvs hr
   have hg := (hat _ rfl).trans (congrArg some (o3c g))
   have h3 := v3c (ps := ps) (pk := pk) (i := i) (n := n) g
   have hrr := g.r
   have hy : evExt 1 h [.v (.one (.sl (bufN c) (18 * (s.t c - s.r c)) (18 * s.r c) (.un (18 * (s.t c - s.r c))))), .v (.one (.i .u8 10))] = some (.v (.one (.i .i64 17))) := by
    have hb : byteL h (.v (.one (.sl (bufN c) (18 * (s.t c - s.r c)) (18 * s.r c) (.un (18 * (s.t c - s.r c)))))) = some (repL (s.r c) (lineC c)) := by
     show (((h.get (bufN c)).bind rowOf).bind fun l => seg l (18 * (s.t c - s.r c)) (18 * s.r c * 1)).bind u8s = _
     rw [hg]
     show (seg (cellsU (repL (s.t c) (lineC c))) (18 * (s.t c - s.r c)) (18 * s.r c * 1)).bind u8s = _
     have h4 := seg_wait g 0 (18 * s.r c) (by omega)
     rw [Nat.add_zero, List.drop_zero, List.take_of_length_le (by rw [repL_len hc]; exact Nat.le_refl _)] at h4
     rw [Nat.mul_one, h4]
     exact u8s_cells _ (rep_lt hc)
    show (match byteL h (.v (.one (.sl (bufN c) (18 * (s.t c - s.r c)) (18 * s.r c) (.un (18 * (s.t c - s.r c)))))) with
     | some l => byteExt 1 10 l
     | none => none) = _
    rw [hb]
    show some (AV.v (.one (.i .i64 (idxB 10 (repL (s.r c) (lineC c)) 0)))) = _
    obtain ⟨k, hk⟩ : ∃ k, s.r c = k + 1 := ⟨s.r c - 1, by omega⟩
    rw [hk, show repL (k + 1) (lineC c) = lineC c ++ repL k (lineC c) from by unfold repL; rw [List.replicate_succ, List.flatten_cons], idx_line hc]
   have hvs' : @All2 AV Value (@VV (syR s ps pk i n c) E) [.v (.one ((syR s ps pk i n c).v (30 + c))), .v (.one (.i .u8 10))] vs := hvs
   rw [h3] at hvs'
   exact @ext12_ok (syR s ps pk i n c) Tryz.prog w0 274 1 _ Tryz.func274 (by kernel_rfl) (by kernel_rfl) (by kernel_rfl) (.inl ⟨rfl, by kernel_rfl⟩) _ _ _ hy E w vs hvs' hr
end
end Go.Ev
