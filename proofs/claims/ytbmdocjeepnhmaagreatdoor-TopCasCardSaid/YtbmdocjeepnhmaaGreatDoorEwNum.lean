/- Number and Text at numbers below 73: closed runs; a call that makes nothing that is kept, over any memory. -/
import Derived.Test.YtbmdocjeepnhmaaGreatDoorEwExt
import Derived.Test.YtbmdocjeepnhmaaGreatDoorEwTc
set_option linter.unusedVariables false
set_option linter.unusedSimpArgs false
set_option linter.unusedSectionVars false
namespace Go.Ev
open Go Go.RowKit Go.Proofs
set_option maxRecDepth 1000000
/-- A number below 100, in digits. -/
def txt (v : Nat) : List Nat := bif Nat.blt v 10 then [48 + v] else [48 + v / 10, 48 + v % 10]
def hp0 : Hp := ⟨.lf none, 0⟩
def isNum (v : Nat) (r : Option (AV × Hp)) : Bool := match r with
 | some (.tup [.one (.i .u64 (.ofNat n)), .one (.b true)], _) => Nat.beq n v
 | _ => false
def isTxt (v : Nat) (r : Option (AV × Hp)) : Bool := match r with
 | some (.v (.one (.s l)), _) => eqL l (txt v)
 | _ => false
theorem num_all : (List.range 73).all (fun v => isNum v (callG Tryz.prog KB (evG Tryz.prog KB 300) 285 [.v (.one (.s (txt v)))] hp0)) = true := by kernel_rfl
theorem txt_all : (List.range 73).all (fun v => isTxt v (callG Tryz.prog KB (evG Tryz.prog KB 300) 286 [.v (.one (.i .u64 (.ofNat v)))] hp0)) = true := by kernel_rfl
theorem text_all : (List.range 73).all (fun v => isTxt v (callG Tryz.prog KB (evG Tryz.prog KB 300) 16 [.v (.one (.i .u64 (.ofNat v)))] hp0)) = true := by kernel_rfl
variable [Sy]
theorem num_at {v : Nat} (hv : v < 73) : ∃ h, callG Tryz.prog KB (evG Tryz.prog KB 300) 285 [.v (.one (.s (txt v)))] hp0 = some (.tup [.one (.i .u64 (.ofNat v)), .one (.b true)], h) := by
 have h1 := List.all_eq_true.1 num_all v (List.mem_range.2 hv)
 unfold isNum at h1
 split at h1
 · rename_i n h hc
   have := Nat.eq_of_beq_eq_true h1
   subst this
   exact ⟨h, hc⟩
 · cases h1
theorem txt_at {v : Nat} (hv : v < 73) : ∃ h, callG Tryz.prog KB (evG Tryz.prog KB 300) 286 [.v (.one (.i .u64 (.ofNat v)))] hp0 = some (.v (.one (.s (txt v))), h) := by
 have h1 := List.all_eq_true.1 txt_all v (List.mem_range.2 hv)
 unfold isTxt at h1
 split at h1
 · rename_i l h hc
   rw [eqL_iff] at h1
   subst h1
   exact ⟨h, hc⟩
 · cases h1
theorem text_at {v : Nat} (hv : v < 73) : ∃ h, callG Tryz.prog KB (evG Tryz.prog KB 300) 16 [.v (.one (.i .u64 (.ofNat v)))] hp0 = some (.v (.one (.s (txt v))), h) := by
 have h1 := List.all_eq_true.1 text_all v (List.mem_range.2 hv)
 unfold isTxt at h1
 split at h1
 · rename_i l h hc
   rw [eqL_iff] at h1
   subst h1
   exact ⟨h, hc⟩
 · cases h1
/-- Values without names. -/
def plain1 : A1 → Bool
 | .b _ | .i _ _ | .s _ | .nilp | .nils | .nilm | .nili | .nilf | .f _ => true
 | _ => false
def plain2 : A2 → Bool
 | .one x => plain1 x
 | .agg l => l.all plain1
def plainV : AV → Bool
 | .v x => plain2 x
 | .tup l => l.all plain2
theorem V1.plain {E E' : List Ent} {x : A1} {v : Value} (hp : plain1 x = true) (h : V1 E x v) : V1 E' x v := by
 cases x <;> first | exact h | cases hp
theorem All2.imp_mem {α β : Type} {R R' : α → β → Prop} : ∀ {l : List α} {m : List β}, (∀ a b, a ∈ l → R a b → R' a b) → All2 R l m → All2 R' l m
 | [], [], _, _ => trivial
 | a :: l, b :: m, hr, h => ⟨hr a b List.mem_cons_self h.1, All2.imp_mem (fun a b ha => hr a b (List.mem_cons_of_mem _ ha)) h.2⟩
theorem V2.plain {E E' : List Ent} {x : A2} {v : Value} (hp : plain2 x = true) (h : V2 E x v) : V2 E' x v := by
 cases x with
 | one x => exact V1.plain hp h
 | agg l =>
  obtain ⟨cs, h1, h2⟩ := h
  exact ⟨cs, All2.imp_mem (fun a b ha hab => V1.plain (List.all_eq_true.1 hp a ha) hab) h1, h2⟩
theorem VV.plain {E E' : List Ent} {x : AV} {v : Value} (hp : plainV x = true) (h : VV E x v) : VV E' x v := by
 cases x with
 | v x => exact V2.plain hp h
 | tup l =>
  obtain ⟨cs, h1, h2⟩ := h
  exact ⟨cs, All2.imp_mem (fun a b ha hab => V2.plain (List.all_eq_true.1 hp a ha) hab) h1, h2⟩
theorem rep_start (w : World) : Rep (Base.all w) [] hp0 w where
 below := Kept.refl _
 len := rfl
 bound := Nat.zero_le _
 obj := fun k o hk _ => absurd hk (Nat.not_lt_zero k)
 free := fun k _ _ => Tr.get_lf D k
 sep := fun k k' o o' b c c' hk _ _ _ _ _ => absurd hk (Nat.not_lt_zero k)
 old := fun k o b c hk _ _ => absurd hk (Nat.not_lt_zero k)
/-- A call of values without names that tells such a one: the memory that is told of stays. -/
theorem plain_call {w0 : Base} {w : World} {E : List Ent} {h h' : Hp} {f n : Nat} {xs : List AV} {y : AV} {vs : List Value} (hr : Rep w0 E h w) (hvs : All2 (VV E) xs vs) (hx : xs.all plainV = true) (hy : plainV y = true)
  (hc : callG Tryz.prog KB (evG Tryz.prog KB n) f xs hp0 = some (y, h')) : CallDoes Tryz.prog w0 E f vs.toArray w y h := by
 rw [callG_eq Tryz.prog KB _ _ (fun f p c s => evG_eq Tryz.prog KB n f p c s)] at hc
 have hk : HkOk Tryz.prog (Base.all w) KB := KB_ok
 have hvs' : All2 (VV []) xs vs := All2.imp_mem (fun a b ha hab => VV.plain (List.all_eq_true.1 hx a ha) hab) hvs
 rcases callA_ok hk.ex no_count (evCode_ok follows hk no_count n).1 f xs hp0 y h' hc [] w vs hvs' (rep_start w) with ⟨h1, h2⟩ | ⟨v, h1, h2, h3⟩
 · refine .inl ⟨h1, h2.mono ?_⟩
   rintro e w' ⟨v, rfl, E', _, h4, h5⟩
   exact ⟨v, rfl, E, Pre.refl E, hr.move (hr.below.then h4.below) h4.below.size (fun k o b c hk ho he => h4.below.block b (hr.old k o b c hk ho he).2), VV.plain hy h5⟩
 · exact .inr ⟨v, h1, VV.plain hy h2, hr⟩
end Go.Ev
namespace Go.Ev
open Go Go.RowKit Go.Proofs
def nbA (x : A1) : A1 := match x with
 | .y _ => .nilp
 | .c 0 => .nilp
 | x => x
def nbO (x : AO) : AO := match x with
 | .y _ => .siter [] 0
 | .clo _ _ => .siter [] 0
 | .ifc _ _ => .siter [] 0
 | x => x
/-- What is known of values that no name stands for. -/
class CV where
 c : Nat → Value
 one : ∀ i, (c i).oneCell' = true
abbrev mkSy [CV] (f : Nat → A1) (g : Nat → AO) : Sy where
 v i := nbA (f i)
 o i := nbO (g i)
 c := CV.c
 one := CV.one
 vb i j := by
  unfold nbA
  split
  · intro h; cases h
  · intro h; cases h
  · rename_i h1 h2
    exact fun h => h1 j h
 vc i := by
  unfold nbA
  split
  · intro h; cases h
  · intro h; cases h
  · rename_i h1 h2
    exact fun h => h2 h
 ob i j := by
  cases g i <;> simp [nbO]
 oc i f l := by
  cases g i <;> simp [nbO]
 oi i t x := by
  cases g i <;> simp [nbO]
/-- A number below 1000, in digits. -/
def dec (n : Nat) : List Nat := bif Nat.blt n 10 then [48 + n] else bif Nat.blt n 100 then [48 + n / 10, 48 + n % 10] else [48 + n / 100, 48 + n / 10 % 10, 48 + n % 10]
def isTx3 (v : Nat) (r : Option (AV × Hp)) : Bool := match r with
 | some (.v (.one (.s l)), _) => eqL l (dec v)
 | _ => false
theorem dec_len (n : Nat) : 1 ≤ (dec n).length ∧ (dec n).length ≤ 3 := by
 unfold dec
 cases Nat.blt n 10
 · cases Nat.blt n 100 <;> simp
 · simp
theorem dec_dig {n : Nat} (hn : n < 1000) : ∀ c ∈ dec n, 48 ≤ c ∧ c ≤ 57 := by
 unfold dec
 cases h1 : Nat.blt n 10
 · cases h2 : Nat.blt n 100
   · simp
     omega
   · have := Nat.le_of_ble_eq_true h2
     simp
     omega
 · have := Nat.le_of_ble_eq_true h1
   simp
   omega
def cellsU (l : List Nat) : List A1 := l.map fun (n : Nat) => .i .u8 (n : Int)
theorem cellsU_drop (l : List Nat) (k : Nat) : (cellsU l).drop k = cellsU (l.drop k) := by unfold cellsU; rw [List.map_drop]
theorem cellsU_take (l : List Nat) (k : Nat) : (cellsU l).take k = cellsU (l.take k) := by unfold cellsU; rw [List.map_take]
theorem cellsU_len (l : List Nat) : (cellsU l).length = l.length := by simp [cellsU]
theorem u8s_cells : ∀ (l : List Nat), (∀ x ∈ l, x < 256) → u8s (cellsU l) = some l
 | [], _ => rfl
 | a :: l, h => by
  show (bif Nat.blt a 256 then (u8s (cellsU l)).map fun m => a :: m else none) = _
  rw [u8s_cells l fun x hx => h x (List.mem_cons_of_mem _ hx), show Nat.blt a 256 = true from Nat.ble_eq_true_of_le (h a List.mem_cons_self)]
  rfl
/-- The texts: the one's and the other's data. -/
structure Da where
 s : Nat → List Nat
 byte : ∀ d, ∀ c ∈ s d, c < 256
 len : ∀ d, (s d).length ≤ 500
def Da.n (D : Da) (d : Nat) : Nat := (D.s d).length
def Da.t (D : Da) (d : Nat) : Nat := (dec (D.n d)).length
/-- A command's line without its end; the whole. -/
def Da.line (D : Da) (d : Nat) : List Nat := casP ++ (dec (D.n d) ++ [32, 49])
def Da.all (D : Da) (d : Nat) : List Nat := D.line d ++ ([13, 10] ++ (D.s d ++ [13, 10]))
def fD (D : Da) (d b : Nat) : A1 := match b with
 | 50 => .s (D.s d)
 | 52 => .i .i64 (D.n d : Nat)
 | 54 => .i .u64 (D.n d : Nat)
 | 56 => .s (dec (D.n d))
 | 58 => .s (casP ++ dec (D.n d))
 | 60 => .s (casP ++ dec (D.n d) ++ [32])
 | 62 => .s (casP ++ dec (D.n d) ++ [32] ++ [49])
 | 64 => .s (casP ++ dec (D.n d) ++ [32] ++ [49] ++ [13, 10])
 | 66 => .s (casP ++ dec (D.n d) ++ [32] ++ [49] ++ [13, 10] ++ D.s d)
 | 68 => .s (casP ++ dec (D.n d) ++ [32] ++ [49] ++ [13, 10] ++ D.s d ++ [13, 10])
 | 70 => .sl (bN d - 1) 0 (16 + D.t d + D.n d) (.un 0)
 | 72 => .sl (bN d) 0 (16 + D.t d + D.n d) (.un 0)
 | 74 => .i .i64 ((13 + D.t d : Nat) : Int)
 | 76 => .sl (bN d) 0 (13 + D.t d) (.un 0)
 | 78 => .i .i64 ((12 + D.t d : Nat) : Int)
 | 80 => .sl (bN d) (12 + D.t d) 1 (.un (12 + D.t d))
 | 82 => .sl (bN d) 0 (12 + D.t d) (.un 0)
 | 84 => .s (D.line d)
 | 86 => .i .i64 ((14 + D.t d : Nat) : Int)
 | 88 => .sl (bN d) (14 + D.t d) (2 + D.n d) (.un (14 + D.t d))
 | 90 => .s ([107, 32, 48, 32, 48, 32] ++ (dec (D.n d) ++ [32, 49]))
 | 92 => .s ([48, 32, 48, 32] ++ (dec (D.n d) ++ [32, 49]))
 | 94 => .s ([48, 32] ++ (dec (D.n d) ++ [32, 49]))
 | 96 => .s (dec (D.n d) ++ [32, 49])
 | 98 => .i .i64 (D.t d : Nat)
 | 100 => .i .i64 ((D.t d + 1 : Nat) : Int)
 | 102 => .i .i64 ((2 + D.n d : Nat) : Int)
 | 104 => .sl (bN d) (14 + D.t d + D.n d) 2 (.un (14 + D.t d + D.n d))
 | 106 => .p (bN d) (14 + D.t d + D.n d)
 | 108 => .p (bN d) (15 + D.t d + D.n d)
 | 110 => .sl (bN d) (14 + D.t d) (D.n d) (.un (14 + D.t d))
 | 112 => .stl (bN d) (14 + D.t d) 1 (2 + D.n d) (14 + D.t d)
 | 116 => .i .i64 ((33 + D.n d : Nat) : Int)
 | _ => .nilp
def gD (D : Da) (d b : Nat) : AO := match b with
 | 70 => .row 5 1 (cellsU (D.all d))
 | 72 => .row 5 1 (cellsU (D.all d))
 | _ => .siter [] 0
/-- The letters of the texts stand for that. -/
structure Tx (D : Da) (S : Sy) : Prop where
 v : ∀ d b, d < 2 → b % 2 = 0 → 50 ≤ b → S.v (b + d) = fD D d b
 o : ∀ d b, d < 2 → b % 2 = 0 → 50 ≤ b → S.o (b + d) = gD D d b
theorem t23 : Tryz.prog.underlying 23 = some (.slice 5) := by kernel_rfl
theorem t5 : Tryz.prog.underlying 5 = some (.int .u8) := by kernel_rfl
theorem t9 : Tryz.prog.underlying 9 = some .string := by kernel_rfl
theorem t40 : Tryz.prog.underlying 40 = some (.slice 3) := by kernel_rfl
theorem t3 : Tryz.prog.underlying 3 = some (.int .i64) := by kernel_rfl
theorem t35 : Tryz.prog.underlying 35 = some (.int .u64) := by kernel_rfl
theorem s3 : sizeT Tryz.prog 3 = some 1 := by kernel_rfl
theorem g3 : isAggT Tryz.prog 3 = some false := by kernel_rfl
theorem s5 : sizeT Tryz.prog 5 = some 1 := by kernel_rfl
theorem g5 : isAggT Tryz.prog 5 = some false := by kernel_rfl
theorem z5 : zeroT Tryz.prog 5 = some (.one (.i .u8 0)) := by kernel_rfl
theorem b5 : bytesT Tryz.prog 5 = some 1 := by kernel_rfl
theorem wrap64 {a : Int} (h : 0 ≤ a ∧ a < 10000) : IntKind.wrap .u64 a = a := by
 simp [IntKind.wrap, IntKind.bits, IntKind.signed]
 omega
theorem wrapI64 {a : Int} (h : 0 ≤ a ∧ a < 10000) : IntKind.wrap .i64 a = a := by
 simp [IntKind.wrap, IntKind.bits, IntKind.signed]
 omega
def isCmp : BinOp → Bool
 | .eql => true
 | .neq => true
 | .lss => true
 | .leq => true
 | .gtr => true
 | .geq => true
 | _ => false
theorem bin_ii {op : BinOp} {t : TypeId} {k : IntKind} {a b : Int} {r : Bool} (ho : isCmp op = true) (h : cmpI op a b = some r) : evBin Tryz.prog op t (ov (.i k a)) (ov (.i k b)) = some (ov (.b r)) := by
 cases op <;> first | (cases ho; done) | (unfold evBin; simp only [ov, if_true, h, Option.map_some])
theorem bin_add {t : TypeId} {k : IntKind} {a b c : Int} (h : k.wrap (a + b) = c) : evBin Tryz.prog .add t (ov (.i k a)) (ov (.i k b)) = some (ov (.i k c)) := by
 unfold evBin
 simp only [ov, if_true, h]
theorem bin_sub {t : TypeId} {k : IntKind} {a b c : Int} (h : k.wrap (a - b) = c) : evBin Tryz.prog .sub t (ov (.i k a)) (ov (.i k b)) = some (ov (.i k c)) := by
 unfold evBin
 simp only [ov, if_true, h]
theorem bin_rem {t : TypeId} {k : IntKind} {a b c : Int} (hb : b ≠ 0) (h : a.tmod b = c) : evBin Tryz.prog .rem t (ov (.i k a)) (ov (.i k b)) = some (ov (.i k c)) := by
 unfold evBin
 simp only [ov, if_true, if_neg hb, h]
theorem bin_cat {t : TypeId} {a b : List Nat} (h : a.length + b.length ≤ 1000000) : evBin Tryz.prog .add t (ov (.s a)) (ov (.s b)) = some (ov (.s (a ++ b))) := by
 unfold evBin
 simp only [ov, if_pos h]
theorem bin_seq {t : TypeId} {a b : List Nat} {r : Bool} (h : (a == b) = r) : evBin Tryz.prog .eql t (ov (.s a)) (ov (.s b)) = some (ov (.b r)) := by
 unfold evBin
 simp only [ov, h]
theorem bin_sne {t : TypeId} {a b : List Nat} {r : Bool} (h : (!(a == b)) = r) : evBin Tryz.prog .neq t (ov (.s a)) (ov (.s b)) = some (ov (.b r)) := by
 unfold evBin
 simp only [ov, h]
/-- Rows, by what their letters stand for. -/
theorem rl_bin {S : Sy} {op : BinOp} {x y r a b c : A1} (hx : @A1.den S x = a) (hy : @A1.den S y = b) (hr : @A1.den S r = c) (hn : a ≠ .nili) (h : ∀ t, evBin Tryz.prog op t (ov a) (ov b) = some (ov c)) : @RlOk S Tryz.prog (.bin op x y r) := by
 refine ⟨fun t => ?_, ?_⟩
 · rw [hx, hy, hr]
   exact h t
 · rw [hx]
   exact hn
theorem len_sl {t e : TypeId} (ht : Tryz.prog.underlying t = some (.slice e)) {k o n : Nat} {q : CapE} : evLenP Tryz.prog t (ov (.sl k o n q)) = some (ov (.i .i64 n)) := by
 unfold evLenP
 simp only [ht, ov, lenIn]
 rfl
theorem len_s {l : List Nat} : evLenP Tryz.prog 9 (ov (.s l)) = some (ov (.i .i64 (l.length : Nat))) := by
 unfold evLenP
 simp only [t9, ov]
theorem rl_len {S : Sy} {t : TypeId} {x r a c : A1} (hx : @A1.den S x = a) (hr : @A1.den S r = c) (h : evLenP Tryz.prog t (ov a) = some (ov c)) : @RlOk S Tryz.prog (.len t x r) := by
 show evLenP Tryz.prog t (ov (@A1.den S x)) = some (ov (@A1.den S r))
 rw [hx, hr]
 exact h
theorem slc_un {k o n j a b : Nat} {lo hi : Option AV} (h1 : a ≤ b ∧ b ≤ n ∧ a < n) (hlo : bnd 0 lo = some a) (hhi : bnd n hi = some b) : evSlice Tryz.prog 23 (ov (.sl k o n (.un j))) lo hi none = some (ov (.sl k (o + a * 1) (b - a) (.un (j + a)))) := by
 unfold evSlice
 simp only [t23, s5, ov, hlo, hhi]
 rw [if_pos h1]
theorem slc_end {k o n j : Nat} {lo hi : Option AV} (hlo : bnd 0 lo = some n) (hhi : bnd n hi = some n) : evSlice Tryz.prog 23 (ov (.sl k o n (.un j))) lo hi none = some (ov (.stl k o 1 n j)) := by
 unfold evSlice
 simp only [t23, s5, ov, hlo, hhi]
 rw [if_neg (by omega), if_pos (by simp)]
theorem slc_s {l : List Nat} {a b : Nat} {lo hi : Option AV} (h1 : a ≤ b ∧ b ≤ l.length) (hlo : bnd 0 lo = some a) (hhi : bnd l.length hi = some b) : evSlice Tryz.prog 9 (ov (.s l)) lo hi none = some (ov (.s ((l.drop a).take (b - a)))) := by
 unfold evSlice
 simp only [t9, ov, hlo, hhi]
 rw [if_pos h1]
theorem bnd_i {d n : Nat} {v : Option AV} (h : v = some (ov (.i .i64 (n : Nat)))) : bnd d v = some n := by
 subst h
 show (some ((n : Nat) : Int)).bind (fun i => if 0 ≤ i then some i.toNat else none) = some n
 simp
theorem rl_slc {S : Sy} {t : TypeId} {x r a c : A1} {lo hi : Option A1} {lo' hi' : Option AV} (hx : @A1.den S x = a) (hr : @A1.den S r = c) (hlo : (lo.map fun q => ov (@A1.den S q)) = lo') (hhi : (hi.map fun q => ov (@A1.den S q)) = hi') (h : evSlice Tryz.prog t (ov a) lo' hi' none = some (ov c)) : @RlOk S Tryz.prog (.slc t x lo hi r) := by
 show evSlice Tryz.prog t (ov (@A1.den S x)) (lo.map fun q => ov (@A1.den S q)) (hi.map fun q => ov (@A1.den S q)) none = some (ov (@A1.den S r))
 rw [hx, hr, hlo, hhi]
 exact h
theorem conv_none {x : AV} : evConvP Tryz.prog 23 9 x = none := by
 unfold evConvP
 simp only [t23, t9]
theorem conv_sl {h : Hp} {k o n : Nat} {q : CapE} {l : List A1} {cs : List A1} {m : List Nat} (hg : h.get k = some (.row 5 1 l)) (hs : seg l o n = some cs) (hm : u8s cs = some m) : evConvM Tryz.prog h 23 9 (ov (.sl k o n q)) = some (ov (.s m), []) := by
 unfold evConvM
 simp only [t23, t9, t5, ov, cellsIn, hg, Option.bind_some, rowOf, Nat.mul_one, hs, hm, Option.map_some]
theorem cnv_ii {s d : TypeId} {ks kd : IntKind} {n : Int} (hs : Tryz.prog.underlying s = some (.int ks)) (hd : Tryz.prog.underlying d = some (.int kd)) : evConvP Tryz.prog s d (ov (.i ks n)) = some (ov (.i kd (kd.wrap n))) := by
 unfold evConvP
 simp only [hs, hd, ov]
theorem rl_cnv {S : Sy} {s d : TypeId} {x r a c : A1} (hx : @A1.den S x = a) (hr : @A1.den S r = c) (h : evConvP Tryz.prog s d (ov a) = some (ov c)) : @RlOk S Tryz.prog (.cnv s d x r) := by
 show evConvP Tryz.prog s d (ov (@A1.den S x)) = some (ov (@A1.den S r))
 rw [hx, hr]
 exact h
section
variable {D : Da} {d : Nat}
theorem Da.nle (D : Da) (d : Nat) : D.n d ≤ 500 := D.len d
theorem Da.tle (D : Da) (d : Nat) : 1 ≤ D.t d ∧ D.t d ≤ 3 := dec_len _
theorem line_len : (D.line d).length = 12 + D.t d := by
 unfold Da.line Da.t
 simp [casP]
 omega
theorem all_len : (D.all d).length = 16 + D.t d + D.n d := by
 have := line_len (D := D) (d := d)
 unfold Da.all
 simp only [List.length_append, this]
 show 12 + D.t d + (2 + (D.n d + 2)) = _
 omega
theorem line_byte : ∀ c ∈ D.line d, c < 256 := by
 have hd := dec_dig (n := D.n d) (by have := D.nle d; omega)
 intro c hc
 unfold Da.line at hc
 rcases List.mem_append.1 hc with h | h
 · have h0 : ∀ c ∈ casP, c < 256 := by decide
   exact h0 c h
 · rcases List.mem_append.1 h with h | h
   · have := hd c h
     omega
   · simp at h
     omega
theorem all_byte : ∀ c ∈ D.all d, c < 256 := by
 intro c hc
 unfold Da.all at hc
 rcases List.mem_append.1 hc with h | h
 · exact line_byte c h
 · rcases List.mem_append.1 h with h | h
   · simp at h; omega
   · rcases List.mem_append.1 h with h | h
     · exact D.byte d c h
     · simp at h; omega
theorem seg_all {o n : Nat} (h : o + n ≤ 16 + D.t d + D.n d) : seg (cellsU (D.all d)) o n = some (cellsU (((D.all d).drop o).take n)) := by
 unfold seg
 rw [if_pos (by rw [cellsU_len, all_len]; exact h), cellsU_drop, cellsU_take]
end
end Go.Ev
