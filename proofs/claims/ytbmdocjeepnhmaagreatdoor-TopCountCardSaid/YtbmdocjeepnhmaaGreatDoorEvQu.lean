/- TopCount's letters; the loops that feed the connections; the rows of the main tables are right. -/
import Derived.Test.YtbmdocjeepnhmaaGreatDoorEvQt
import Derived.Test.YtbmdocjeepnhmaaGreatDoorEvYd
set_option linter.unusedVariables false
set_option linter.unusedSimpArgs false
set_option linter.unusedSectionVars false
namespace Go.Ev
open Go Go.RowKit Go.Proofs
/-- What is asked: how many lines each connection is fed; the picks. -/
structure Fp where
 n : Nat → Nat
 ps : List Int
/-- What comes of it. -/
structure Fx where
 s2 : Cn
 k2 : Nat
 s3 : Cn
def Fp.sum (F : Fp) : Nat := F.n 2 + F.n 3 * 2 + F.n 4 * 3
def fF (F : Fp) (G : Fx) (q : Nat) : A1 := match q with
 | 21 => .c 1
 | 22 => .i .i64 (F.ps.length : Nat)
 | 32 => bufP (F.n 2) (F.n 2) 2
 | 33 => bufP (F.n 3) (F.n 3) 3
 | 34 => bufP (F.n 4) (F.n 4) 4
 | 50 => .i .i64 (F.n 2 : Nat)
 | 51 => .i .i64 (F.n 3 : Nat)
 | 52 => .i .i64 (F.n 4 : Nat)
 | 53 => .i .i64 (F.n 2 : Nat)
 | 54 => .i .i64 ((F.n 3 * 2 : Nat) : Int)
 | 55 => .i .i64 ((F.n 4 * 3 : Nat) : Int)
 | 56 => .i .i64 (F.n 2 : Nat)
 | 57 => .i .i64 ((F.n 2 + F.n 3 * 2 : Nat) : Int)
 | 58 => .i .i64 (F.sum : Nat)
 | 70 => .i .u64 ((1 + G.s2.dn : Nat) : Int)
 | 71 => .s (txt G.s2.vl)
 | 72 => .sl 758 0 (1 + G.s2.dn) (.un 0)
 | 75 => bufP (G.s2.t 2) (G.s2.r 2) 2
 | 76 => bufP (G.s2.t 3) (G.s2.r 3) 3
 | 77 => bufP (G.s2.t 4) (G.s2.r 4) 4
 | 80 => .i .u64 ((1 + G.s3.dn : Nat) : Int)
 | 81 => .s (txt G.s3.vl)
 | 82 => .sl 761 0 (1 + G.s3.dn) (.un 0)
 | 85 => bufP (G.s3.t 2) (G.s3.r 2) 2
 | 86 => bufP (G.s3.t 3) (G.s3.r 3) 3
 | 87 => bufP (G.s3.t 4) (G.s3.r 4) 4
 | 90 => .i .i64 (G.k2 : Nat)
 | 91 => .s (txt F.sum)
 | 92 => .i .u64 (F.sum : Nat)
 | _ => .nilp
def gF (F : Fp) (G : Fx) (q : Nat) : AO := match q with
 | 12 => bufO (F.n 2) 2
 | 13 => bufO (F.n 3) 3
 | 14 => bufO (F.n 4) 4
 | 70 => .row 71 18 (logO (1 + G.s2.dn))
 | 80 => .row 71 18 (logO (1 + G.s3.dn))
 | _ => .siter [] 0
abbrev syF [CV] (F : Fp) (G : Fx) : Sy := mkSy (fF F G) (gF F G)
/-- The letters of a pass that feeds connection c + 2: i lines are there. -/
def fIn (F : Fp) (G : Fx) (c i : Nat) (q : Nat) : A1 := bif Nat.beq q (32 + c) then bufP i i (c + 2) else match q with
 | 40 => .sl (newN c) 0 (18 * (i + 1)) (.un 0)
 | 60 => .i .i64 (i : Nat)
 | 61 => .i .i64 ((i + 1 : Nat) : Int)
 | q => fF F G q
def gInO (F : Fp) (G : Fx) (c i : Nat) (q : Nat) : AO := bif Nat.beq q (12 + c) then bufO i (c + 2) else match q with
 | 40 => .row 5 1 (cellsU (repL (i + 1) (lineC (c + 2))))
 | q => gF F G q
abbrev syI [CV] (F : Fp) (G : Fx) (c i : Nat) : Sy := mkSy (fIn F G c i) (gInO F G c i)
theorem z5 : zeroT Tryz.prog 5 = some (.one (.i .u8 0)) := by kernel_rfl
theorem b5 : bytesT Tryz.prog 5 = some 1 := by kernel_rfl
theorem repL_succ {c : Nat} (i : Nat) : repL i (lineC c) ++ lineC c = repL (i + 1) (lineC c) := by
 unfold repL
 rw [List.replicate_succ', List.flatten_append]
 simp
section
variable {F : Fp} {G : Fx} {c i : Nat} {w0 : World}
theorem tabIn_ok [CV] {more : Bool} (hc : c < 3) (hi : i < 20) (hn : F.n (c + 2) < 20) (hm : decide (i < F.n (c + 2)) = more) : ∀ e ∈ tabIn c more, @RlOk (syI F G c i) Tryz.prog e := by
 intro e he
 unfold tabIn at he
 simp only [List.mem_cons, List.mem_nil_iff, or_false] at he
 have hc3 : c = 0 ∨ c = 1 ∨ c = 2 := by omega
 rcases he with rfl | rfl | rfl
 · have h50 : ∀ x, x = (syI F G c i).v (50 + c) → x = .i .i64 (F.n (c + 2) : Nat) := by
    intro x hx
    rw [hx]
    rcases hc3 with rfl | rfl | rfl <;> rfl
   have h60 : (syI F G c i).v 60 = .i .i64 (i : Nat) := by rcases hc3 with rfl | rfl | rfl <;> rfl
   refine ⟨fun t => ?_, ?_⟩
   · show evBin Tryz.prog .lss t (ov ((syI F G c i).v 60)) (ov ((syI F G c i).v (50 + c))) = some (ov (.b more))
     rw [h60, h50 _ rfl]
     refine bin_ii (by decide) (congrArg some ?_)
     rw [← hm]
     show decide ((i : Int) < (F.n (c + 2) : Int)) = decide (i < F.n (c + 2))
     by_cases h : i < F.n (c + 2)
     · rw [decide_eq_true h, decide_eq_true (by omega)]
     · rw [decide_eq_false h, decide_eq_false (by omega)]
   · show (syI F G c i).v 60 ≠ .nili
     rw [h60]
     intro h
     cases h
 · have h60 : (syI F G c i).v 60 = .i .i64 (i : Nat) := by rcases hc3 with rfl | rfl | rfl <;> rfl
   have h61 : (syI F G c i).v 61 = .i .i64 ((i + 1 : Nat) : Int) := by rcases hc3 with rfl | rfl | rfl <;> rfl
   refine ⟨fun t => ?_, ?_⟩
   · show evBin Tryz.prog .add t (ov ((syI F G c i).v 60)) (ov (.i .i64 1)) = some (ov ((syI F G c i).v 61))
     rw [h60, h61]
     exact bin_add ((wrapI64 (by omega)).trans (by omega))
   · show (syI F G c i).v 60 ≠ .nili
     rw [h60]
     intro h
     cases h
 · intro h q o cp hg hn' hx
   have hcc : c + 2 = 2 ∨ c + 2 = 3 ∨ c + 2 = 4 := by omega
   have hx : cellsIn h 1 (ov (.sl q o 18 cp)) = some (cellsU (lineC (c + 2))) := hx
   have h32 : @A1.den (syI F G c i) (.y (32 + c)) = bufP i i (c + 2) := by
    show nbA (fIn F G c i (32 + c)) = _
    unfold fIn
    rw [Nat.beq_refl, cond_true]
    exact nbA_buf _ _ _
   have h40 : @A1.den (syI F G c i) (.y 40) = .sl (newN c) 0 (18 * (i + 1)) (.un 0) := by rcases hc3 with rfl | rfl | rfl <;> rfl
   have o40 : (syI F G c i).o 40 = .row 5 1 (cellsU (repL (i + 1) (lineC (c + 2)))) := by rcases hc3 with rfl | rfl | rfl <;> rfl
   have o12 : (syI F G c i).o (12 + c) = bufO i (c + 2) := by
    show nbO (gInO F G c i (12 + c)) = _
    unfold gInO
    rw [Nat.beq_refl, cond_true]
    exact nbO_buf _ _
   rw [h32, h40, o40]
   rw [o12] at hg
   have hnn : newN c < 2 ^ D := by rcases hc3 with rfl | rfl | rfl <;> decide
   have hcl : (cellsU (lineC (c + 2))).length = 18 := by rw [cellsU_len, line_len hcc]
   cases i with
   | zero =>
    right
    have hb : bufP 0 0 (c + 2) = .nils := rfl
    rw [hb]
    unfold evAppend
    simp only [elemT, t23, ov, s5, if_true] at hx ⊢
    rw [hx]
    simp only
    rw [if_neg (by decide)]
    unfold mkRow
    simp only [z5, b5, hn']
    rw [if_pos ⟨hnn, rfl, by decide, by decide, by rw [hcl]⟩]
    have : repL (0 + 1) (lineC (c + 2)) = lineC (c + 2) := by simp [repL]
    rw [this]
    rfl
   | succ i =>
    left
    have e1 : Nat.beq (i + 1) 0 = false := rfl
    have hb : bufP (i + 1) (i + 1) (c + 2) = .sl (bufN (c + 2)) 0 (18 * (i + 1)) (.un 0) := by simp only [bufP, e1, cond_false, Nat.sub_self, Nat.mul_zero]
    have hbo : bufO (i + 1) (c + 2) = .row 5 1 (cellsU (repL (i + 1) (lineC (c + 2)))) := by simp only [bufO, e1, cond_false]
    rw [hbo] at hg
    rw [hb]
    have hlen : (cellsU (repL (i + 1) (lineC (c + 2)))).length = 18 * (i + 1) := by rw [cellsU_len, repL_len hcc]
    unfold evAppend
    simp only [elemT, t23, ov, s5, if_true, hg] at hx ⊢
    rw [hx]
    simp only [Nat.mul_one, hlen, Nat.le_refl, and_self, if_true]
    rw [if_neg (by decide), List.take_of_length_le (by rw [hlen]; exact Nat.le_refl _)]
    unfold mkRow
    simp only [z5, b5, hn']
    rw [if_pos ⟨hnn, rfl, by omega, by omega, by rw [List.length_append, hlen, hcl]; omega⟩]
    rw [← repL_succ (i + 1)]
    unfold cellsU
    rw [List.map_append]
    rfl
theorem KI_ok [CV] {more : Bool} (hc : c < 3) (hi : i < 20) (hn : F.n (c + 2) < 20) (hm : decide (i < F.n (c + 2)) = more) : @HkOk (syI F G c i) Tryz.prog w0 (KI c more) :=
 KL_ok (tabIn_ok hc hi hn hm) (fun e he => by simp at he) (exI_ok (@exB_ok (syI F G c i) w0)) (fun r hr => by simp at hr)
end
section
variable {S1 S2 : Sy} {fl : List (Nat × Nat)} {N : Nat}
theorem vNil (hc : ∀ i, S1.c i = S2.c i) : LetV S1 S2 fl N [] := ⟨hc, fun p hp => by simp at hp⟩
theorem vCons {g : List (Nat × A1)} {a : Nat} {x : A1} (h : LetV S1 S2 fl N g) (hx : sim1 fl N [] (S2.v a) (@A1.den S1 x) = true) : LetV S1 S2 fl N ((a, x) :: g) := ⟨h.1, fun p hp => (List.mem_cons.1 hp).elim (fun e => by rw [e]; exact hx) (h.2 p)⟩
theorem hNil : LetH S1 S2 fl N [] := fun p hp => by simp at hp
theorem hCons {g : List (Nat × AO)} {a : Nat} {x : AO} (h : LetH S1 S2 fl N g) (hx : simO fl N [] [] (S2.o a) (@AO.den S1 x) = true) : LetH S1 S2 fl N ((a, x) :: g) := fun p hp => (List.mem_cons.1 hp).elim (fun e => by rw [e]; exact hx) (h p)
theorem bufP_full (i c : Nat) : bufP (i + 1) (i + 1) c = .sl (bufN c) 0 (18 * (i + 1)) (.un 0) := by
 have e1 : Nat.beq (i + 1) 0 = false := rfl
 simp only [bufP, e1, cond_false, Nat.sub_self, Nat.mul_zero]
theorem in_new {i c k : Nat} (h1 : Nat.blt (bufN c) N = true) (h2 : nmF fl (bufN c) = k) : sim1 fl N [] (nbA (bufP (i + 1) (i + 1) c)) (.sl k 0 (18 * (i + 1)) (.un 0)) = true := by
 rw [nbA_buf, bufP_full]
 exact sim_sl h1 h2
theorem bufO_full (i c : Nat) : bufO (i + 1) c = .row 5 1 (cellsU (repL (i + 1) (lineC c))) := by
 have e1 : Nat.beq (i + 1) 0 = false := rfl
 simp only [bufO, e1, cond_false]
theorem simU {l : List Nat} : simO fl N [] [] (.row 5 1 (cellsU l)) (.row 5 1 (cellsU l)) = true := by
 unfold simO cellsU
 simp only
 rw [simL_same fun x hx => by
  obtain ⟨n, _, rfl⟩ := List.mem_map.1 hx
  rfl]
 rfl
theorem in_newO {i c : Nat} : simO fl N [] [] (nbO (bufO (i + 1) c)) (.row 5 1 (cellsU (repL (i + 1) (lineC c)))) = true := by
 rw [nbO_buf, bufO_full]
 exact simU
end
section
variable [CV] {F : Fp} {G : Fx} {i j : Nat}
theorem inV0 : LetV (syI F G 0 i) (syI F G 0 (i + 1)) [(733, 735)] 734 (gIn 0) :=
 vCons (vCons (vCons (vCons (vCons (vCons (vCons (vNil fun _ => rfl) (sim_plain rfl)) (sim_plain rfl)) (sim_plain rfl)) (sim_plain rfl)) rfl) (sim_plain rfl)) (in_new rfl rfl)
theorem inV1 : LetV (syI F G 1 i) (syI F G 1 (i + 1)) [(743, 745)] 744 (gIn 1) :=
 vCons (vCons (vCons (vCons (vCons (vCons (vCons (vCons (vNil fun _ => rfl) (sim_plain rfl)) (sim_plain rfl)) (sim_plain rfl)) (sim_plain rfl)) rfl) (sim_buf rfl rfl)) (sim_plain rfl)) (in_new rfl rfl)
theorem inV2 : LetV (syI F G 2 i) (syI F G 2 (i + 1)) [(755, 757)] 756 (gIn 2) :=
 vCons (vCons (vCons (vCons (vCons (vCons (vCons (vCons (vCons (vNil fun _ => rfl) (sim_plain rfl)) (sim_plain rfl)) (sim_plain rfl)) (sim_plain rfl)) rfl) (sim_buf rfl rfl)) (sim_buf rfl rfl)) (sim_plain rfl)) (in_new rfl rfl)
theorem inO0 : LetH (syI F G 0 i) (syI F G 0 (i + 1)) [(733, 735)] 734 (oIn 0) :=
 hCons hNil in_newO
theorem inO1 : LetH (syI F G 1 i) (syI F G 1 (i + 1)) [(743, 745)] 744 (oIn 1) :=
 hCons (hCons hNil sim_bufO) in_newO
theorem inO2 : LetH (syI F G 2 i) (syI F G 2 (i + 1)) [(755, 757)] 756 (oIn 2) :=
 hCons (hCons (hCons hNil sim_bufO) sim_bufO) in_newO
theorem ieV0 : LetV (syI F G 0 i) (syI F G 0 i) [] 734 (gIe 0) :=
 vCons (vCons (vCons (vCons (vCons (vCons (vCons (vNil fun _ => rfl) (sim_plain rfl)) (sim_plain rfl)) (sim_plain rfl)) (sim_plain rfl)) rfl) (sim_plain rfl)) (sim_buf rfl rfl)
theorem ieV1 : LetV (syI F G 1 i) (syI F G 1 i) [] 744 (gIe 1) :=
 vCons (vCons (vCons (vCons (vCons (vCons (vCons (vCons (vNil fun _ => rfl) (sim_plain rfl)) (sim_plain rfl)) (sim_plain rfl)) (sim_plain rfl)) rfl) (sim_buf rfl rfl)) (sim_plain rfl)) (sim_buf rfl rfl)
theorem ieV2 : LetV (syI F G 2 i) (syI F G 2 i) [] 756 (gIe 2) :=
 vCons (vCons (vCons (vCons (vCons (vCons (vCons (vCons (vCons (vNil fun _ => rfl) (sim_plain rfl)) (sim_plain rfl)) (sim_plain rfl)) (sim_plain rfl)) rfl) (sim_buf rfl rfl)) (sim_buf rfl rfl)) (sim_plain rfl)) (sim_buf rfl rfl)
theorem ieO0 : LetH (syI F G 0 i) (syI F G 0 i) [] 734 (oIe 0) :=
 hCons hNil sim_bufO
theorem ieO1 : LetH (syI F G 1 i) (syI F G 1 i) [] 744 (oIe 1) :=
 hCons (hCons hNil sim_bufO) sim_bufO
theorem ieO2 : LetH (syI F G 2 i) (syI F G 2 i) [] 756 (oIe 2) :=
 hCons (hCons (hCons hNil sim_bufO) sim_bufO) sim_bufO
theorem isV0 : LetV (syF F G) (syI F G 0 0) [(733, 489)] 734 (rowIn 0 sI0 sIX0 489).g :=
 vCons (vCons (vCons (vCons (vCons (vCons (vCons (vNil fun _ => rfl) (sim_plain rfl)) (sim_plain rfl)) (sim_plain rfl)) (sim_plain rfl)) rfl) (sim_plain rfl)) (sim_plain rfl)
theorem isV1 : LetV (syF F G) (syI F G 1 0) [(743, 490)] 744 (rowIn 1 sI1 sIX1 490).g :=
 vCons (vCons (vCons (vCons (vCons (vCons (vCons (vCons (vNil fun _ => rfl) (sim_plain rfl)) (sim_plain rfl)) (sim_plain rfl)) (sim_plain rfl)) rfl) (sim_buf rfl rfl)) (sim_plain rfl)) (sim_plain rfl)
theorem isV2 : LetV (syF F G) (syI F G 2 0) [(755, 491)] 756 (rowIn 2 sI2 sIX2 491).g :=
 vCons (vCons (vCons (vCons (vCons (vCons (vCons (vCons (vCons (vNil fun _ => rfl) (sim_plain rfl)) (sim_plain rfl)) (sim_plain rfl)) (sim_plain rfl)) rfl) (sim_buf rfl rfl)) (sim_buf rfl rfl)) (sim_plain rfl)) (sim_plain rfl)
theorem isO0 : LetH (syF F G) (syI F G 0 0) [(733, 489)] 734 (rowIn 0 sI0 sIX0 489).ol :=
 hCons hNil rfl
theorem isO1 : LetH (syF F G) (syI F G 1 0) [(743, 490)] 744 (rowIn 1 sI1 sIX1 490).ol :=
 hCons (hCons hNil sim_bufO) rfl
theorem isO2 : LetH (syF F G) (syI F G 2 0) [(755, 491)] 756 (rowIn 2 sI2 sIX2 491).ol :=
 hCons (hCons (hCons hNil sim_bufO) sim_bufO) rfl
theorem ixV0 : LetV (syI F G 0 (F.n 2)) (syF F G) [] 734 (gIX 0) :=
 vCons (vCons (vCons (vCons (vCons (vCons (vNil fun _ => rfl) (sim_plain rfl)) (sim_plain rfl)) (sim_plain rfl)) (sim_plain rfl)) rfl) (sim_buf rfl rfl)
theorem ixV1 : LetV (syI F G 1 (F.n 3)) (syF F G) [] 744 (gIX 1) :=
 vCons (vCons (vCons (vCons (vCons (vCons (vCons (vNil fun _ => rfl) (sim_plain rfl)) (sim_plain rfl)) (sim_plain rfl)) (sim_plain rfl)) rfl) (sim_buf rfl rfl)) (sim_buf rfl rfl)
theorem ixV2 : LetV (syI F G 2 (F.n 4)) (syF F G) [] 756 (gIX 2) :=
 vCons (vCons (vCons (vCons (vCons (vCons (vCons (vCons (vNil fun _ => rfl) (sim_plain rfl)) (sim_plain rfl)) (sim_plain rfl)) (sim_plain rfl)) rfl) (sim_buf rfl rfl)) (sim_buf rfl rfl)) (sim_buf rfl rfl)
theorem ixO0 : LetH (syI F G 0 (F.n 2)) (syF F G) [] 734 (oIe 0) :=
 hCons hNil sim_bufO
theorem ixO1 : LetH (syI F G 1 (F.n 3)) (syF F G) [] 744 (oIe 1) :=
 hCons (hCons hNil sim_bufO) sim_bufO
theorem ixO2 : LetH (syI F G 2 (F.n 4)) (syF F G) [] 756 (oIe 2) :=
 hCons (hCons (hCons hNil sim_bufO) sim_bufO) sim_bufO
end
/-- A loop that feeds, by its parts. -/
theorem in_row [CV] {F : Fp} {G : Fx} {w0 : World} {c nn new sp : Nat} {s0 sX : St} (hc : c < 3) (hn : F.n (c + 2) < 20) (h0 : s0.h.n = nn) (hX : sX.h.n = nn) (hb : Nat.ble nn 2048 = true) (f0 : freeB s0.h = true) (fX : freeB sX.h = true)
  (kp : chkR .normal [(bufN (c + 2), new)] (gIn c) (oIn c) s0 (passOf (KI c true) 3000 4 (false :: false :: way4) s0) = true) (ke : chkR (.exit 4) [] (gIe c) (oIe c) s0 (passOf (KI c false) 3000 4 (false :: false :: way4) s0) = true) (ko : chkSt [] (gIX c) (oIe c) sX s0 = true)
  (keep : (List.range nn).all (fun k => Nat.beq (nmF [(bufN (c + 2), new)] k) k || [bufN (c + 2)].any (Nat.beq k)) = true)
  (v1 : ∀ i, LetV (syI F G c i) (syI F G c (i + 1)) [(bufN (c + 2), new)] nn (gIn c)) (o1 : ∀ i, LetH (syI F G c i) (syI F G c (i + 1)) [(bufN (c + 2), new)] nn (oIn c))
  (v2 : ∀ i, LetV (syI F G c i) (syI F G c i) [] nn (gIe c)) (o2 : ∀ i, LetH (syI F G c i) (syI F G c i) [] nn (oIe c))
  (v3 : LetV (syF F G) (syI F G c 0) [(bufN (c + 2), sp)] nn (rowIn c s0 sX sp).g) (o3 : LetH (syF F G) (syI F G c 0) [(bufN (c + 2), sp)] nn (rowIn c s0 sX sp).ol)
  (v4 : LetV (syI F G c (F.n (c + 2))) (syF F G) [] nn (gIX c)) (o4 : LetH (syI F G c (F.n (c + 2))) (syF F G) [] nn (oIe c)) : LoROk (syF F G) w0 (rowIn c s0 sX sp) := by
 have hb2 : s0.h.n ≤ 2 ^ D := by rw [h0]; exact Nat.le_of_ble_eq_true hb
 intro s' hit cd hat E a w ha hr
 unfold LoR.hit at hit
 simp only [Bool.and_eq_true] at hit
 obtain ⟨⟨g1, g2⟩, g3⟩ := hit
 refine lo_row (sf := fun _ => s0) (fam := fun i => syI F G c i) (m := F.n (c + 2)) (id := 4) (xL := .exit 4) (xX := .normal) (sL := s0) (flIn := [(bufN (c + 2), sp)]) (dead := [bufN (c + 2)]) hat id_in g2 (freeB_ok f0) hb2 (by rw [h0]; exact v3) (by rw [h0]; exact o3) ?_ ?_ (by intro h; cases h) rfl ko (freeB_ok fX) (by rw [hX]; exact Nat.le_of_ble_eq_true hb) (by rw [hX]; exact v4) (by rw [hX]; exact o4) g1 g3 ha hr
 · intro i hi b hbb E a w ha hr
   have hlen : nn ≤ E.length := by rw [@Rep.len (syI F G c i) w0 E s0.h w hr, h0]; exact Nat.le_refl _
   have hk : @HkOk (syI F G c i) Tryz.prog w0 (KI c true) := KI_ok hc (by omega) hn (by rw [decide_eq_true_eq]; exact hi)
   refine wp_mono (pass_ok (S2 := syI F G c (i + 1)) hk kp hbb (freeB_ok f0) hb2 (by rw [h0]; exact v1 i) (by rw [h0]; exact o1 i) ha hr) ?_
   rintro e a' w' ⟨h1, E1, E', h2, h3, h4, h5⟩
   rw [h0] at h3
   refine ⟨h1, E', ?_, h4, h5⟩
   rw [h0]
   exact keeps_pass h2 h3 hlen (Nat.le_refl _) keep
 · intro b hbb E a w ha hr
   have hlen : nn ≤ E.length := by rw [@Rep.len (syI F G c (F.n (c + 2))) w0 E s0.h w hr, h0]; exact Nat.le_refl _
   have hk : @HkOk (syI F G c (F.n (c + 2))) Tryz.prog w0 (KI c false) := KI_ok hc hn hn (by rw [decide_eq_false_iff_not]; omega)
   refine wp_mono (pass_ok (S2 := syI F G c (F.n (c + 2))) hk ke hbb (freeB_ok f0) hb2 (by rw [h0]; exact v2 _) (by rw [h0]; exact o2 _) ha hr) ?_
   rintro e a' w' ⟨h1, E1, E', h2, h3, h4, h5⟩
   rw [h0] at h3
   refine ⟨h1, E', ?_, h4, h5⟩
   rw [h0]
   exact keeps_pass h2 h3 hlen (Nat.le_refl _) (keeps_Ie nn _)
end Go.Ev
