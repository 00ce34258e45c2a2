/- The loop of Run: whatever the picks, from a server by its letters to the server behind them. -/
import Derived.Test.YtbmdocjeepnhmaaGreatDoorEvQl
import Derived.Test.YtbmdocjeepnhmaaGreatDoorEvYa
import Derived.Test.YtbmdocjeepnhmaaGreatDoorEvYb
import Derived.Test.YtbmdocjeepnhmaaGreatDoorEvYl1
import Derived.Test.YtbmdocjeepnhmaaGreatDoorEvYl2
import Derived.Test.YtbmdocjeepnhmaaGreatDoorEvYl3
set_option linter.unusedVariables false
set_option linter.unusedSimpArgs false
set_option linter.unusedSectionVars false
namespace Go.Ev
open Go Go.RowKit Go.Proofs
/-! ### Letters that are the same -/
section
variable {fl : List (Nat × Nat)} {N : Nat}
theorem eqL_refl (l : List Nat) : eqL l l = true := by
 letI : CV := ⟨fun _ => .bool true, fun _ => rfl⟩
 letI : Sy := mkSy (fun _ => .nilp) (fun _ => .siter [] 0)
 rw [eqL_iff]
theorem sim_plain {x : A1} (h : plain1 x = true) : sim1 fl N [] x x = true := by
 cases x with
 | s l =>
  show eqL l l = true
  exact eqL_refl l
 | _ => first | (cases h; done) | simp [sim1]
theorem sim_sl {k k' o n : Nat} {c : CapE} (h1 : Nat.blt k N = true) (h2 : nmF fl k = k') : sim1 fl N [] (.sl k o n c) (.sl k' o n c) = true := by
 cases c <;> simp [sim1, nmB, h1, h2, capB]
theorem sim_stl {k k' o z a j : Nat} (h1 : Nat.blt k N = true) (h2 : nmF fl k = k') : sim1 fl N [] (.stl k o z a j) (.stl k' o z a j) = true := by
 simp [sim1, nmB, h1, h2]
theorem nbA_buf (t r c : Nat) : nbA (bufP t r c) = bufP t r c := by
 unfold bufP
 cases Nat.beq t 0
 · cases Nat.beq r 0 <;> rfl
 · rfl
theorem nbO_buf (t c : Nat) : nbO (bufO t c) = bufO t c := by
 unfold bufO
 cases Nat.beq t 0 <;> rfl
theorem sim_buf {t r c : Nat} (h1 : Nat.blt (bufN c) N = true) (h2 : nmF fl (bufN c) = bufN c) : sim1 fl N [] (nbA (bufP t r c)) (nbA (bufP t r c)) = true := by
 rw [nbA_buf]
 unfold bufP
 cases Nat.beq t 0
 · cases Nat.beq r 0
   · exact sim_sl h1 h2
   · exact sim_stl h1 h2
 · rfl
theorem simL_same {l : List A1} (h : ∀ x ∈ l, plain1 x = true) : simL (sim1 fl N []) l l = true := by
 induction l with
 | nil => rfl
 | cons a l ih =>
  unfold simL
  rw [sim_plain (h a List.mem_cons_self), ih fun x hx => h x (List.mem_cons_of_mem _ hx)]
  rfl
theorem simL_c : ∀ (n : Nat) (l : List A1), l.length = n → simL (sim1 fl N []) (List.replicate n (.c 0)) l = true
 | 0, [], _ => rfl
 | n + 1, a :: l, h => by
  rw [List.replicate_succ]
  unfold simL
  rw [simL_c n l (by simpa using h)]
  rfl
theorem sim_log {n : Nat} {l : List A1} (h : l.length = n * 18) : simO fl N [] [] (.row 71 18 (logO n)) (.row 71 18 l) = true := by
 unfold simO logO
 simp [simL_c (fl := fl) (N := N) (n * 18) l h]
theorem sim_bufO {t c : Nat} : simO fl N [] [] (nbO (bufO t c)) (nbO (bufO t c)) = true := by
 rw [nbO_buf]
 unfold bufO
 cases Nat.beq t 0
 · unfold simO cond cellsU
   simp only
   rw [simL_same fun x hx => by
    obtain ⟨n, _, rfl⟩ := List.mem_map.1 hx
    rfl]
   rfl
 · unfold spB
   cases Nat.beq c 4 <;> rfl
theorem sim_ints {l : List Int} : simO fl N [] [] (.cells 3 (l.map fun p => .i .i64 p)) (.cells 3 (l.map fun p => .i .i64 p)) = true := by
 show (Nat.beq 3 3 && simL (sim1 fl N []) (l.map fun p => .i .i64 p) (l.map fun p => .i .i64 p)) = true
 rw [simL_same fun x hx => by
  obtain ⟨n, _, rfl⟩ := List.mem_map.1 hx
  rfl]
 rfl
theorem logO_len (n : Nat) : (logO n).length = n * 18 := by simp [logO]
end
/-- Picks by other names are the same. -/
structure Pk.Ok (pk : Pk) : Prop where
 sl : ∀ fl, nmF fl 0 = 0 → sim1 fl 770 [] (nbA pk.sl) (nbA pk.sl) = true
 o : ∀ fl, simO fl 770 [] [] (nbO pk.o) (nbO pk.o) = true
def Pk.Ru [CV] (pk : Pk) (ps : List Int) (w0 : World) : Prop := ∀ s i n c, i < ps.length → @RuOk (syR s ps pk i n c) Tryz.prog w0 ruPk
/-! ### The server behind picks -/
/-- The connection whose line a pick does; 0: none. -/
def lineOf (s : Cn) (p : Int) : Nat := if p < 0 then 0 else if (p.tmod 4).toNat = 0 ∨ s.r ((p.tmod 4).toNat + 1) = 0 then 0 else (p.tmod 4).toNat + 1
def Cn.take (s : Cn) (c : Nat) : Cn := ⟨s.t, fun q => if q = c then s.r c - 1 else s.r q⟩
def runC (s : Cn) (ps : List Int) : Nat → Cn × Nat
 | 0 => (s, 0)
 | i + 1 => if lineOf (runC s ps i).1 (ps.getD i 0) = 0 then runC s ps i else ((runC s ps i).1.take (lineOf (runC s ps i).1 (ps.getD i 0)), (runC s ps i).2 + 1)
abbrev famR [CV] (s : Cn) (ps : List Int) (pk : Pk) (i : Nat) : Sy := syR (runC s ps i).1 ps pk i (runC s ps i).2 (lineOf (runC s ps i).1 (ps.getD i 0))
theorem Cn.take_ok {s : Cn} (h : s.Ok) (c : Nat) : (s.take c).Ok := by
 intro q hq
 have := h q hq
 show (if q = c then s.r c - 1 else s.r q) ≤ s.t q ∧ s.t q ≤ 12
 split
 · rename_i e
   subst e
   omega
 · exact this
theorem runC_ok {s : Cn} (h : s.Ok) (ps : List Int) : ∀ i, (runC s ps i).1.Ok
 | 0 => h
 | i + 1 => by
  unfold runC
  split
  · exact runC_ok h ps i
  · exact Cn.take_ok (runC_ok h ps i) _
theorem runC_le (s : Cn) (ps : List Int) : ∀ i, (runC s ps i).2 ≤ i
 | 0 => Nat.le_refl _
 | i + 1 => by
  have := runC_le s ps i
  unfold runC
  split
  · omega
  · show (runC s ps i).2 + 1 ≤ i + 1
    omega
theorem lineOf_yes {s : Cn} {p : Int} {q : Nat} (hp : ¬ p < 0) (hq : (p.tmod 4).toNat = q) (h0 : q ≠ 0) (hr : s.r (q + 1) ≠ 0) : lineOf s p = q + 1 := by
 unfold lineOf
 rw [if_neg hp, hq, if_neg (by omega)]
theorem lineOf_no {s : Cn} {p : Int} {q : Nat} (hp : ¬ p < 0) (hq : (p.tmod 4).toNat = q) (h0 : q = 0 ∨ s.r (q + 1) = 0) : lineOf s p = 0 := by
 unfold lineOf
 rw [if_neg hp, hq, if_pos h0]
theorem runC_no {s : Cn} {ps : List Int} {i : Nat} (h : lineOf (runC s ps i).1 (ps.getD i 0) = 0) : runC s ps (i + 1) = runC s ps i := by
 show (if _ then _ else _) = _
 rw [if_pos h]
theorem runC_yes {s : Cn} {ps : List Int} {i c : Nat} (h : lineOf (runC s ps i).1 (ps.getD i 0) = c) (hc : c ≠ 0) : runC s ps (i + 1) = ((runC s ps i).1.take c, (runC s ps i).2 + 1) := by
 show (if _ then _ else _) = _
 rw [h, if_neg hc]
section
variable {s : Cn} {c : Nat}
theorem take_dn (h : s.Ok) (hc : c = 2 ∨ c = 3 ∨ c = 4) (hr : 0 < s.r c) : (s.take c).dn = s.dn + 1 := by
 have h2 := h 2 (by simp)
 have h3 := h 3 (by simp)
 have h4 := h 4 (by simp)
 unfold Cn.dn Cn.take
 rcases hc with rfl | rfl | rfl <;> simp <;> omega
theorem take_vl (h : s.Ok) (hc : c = 2 ∨ c = 3 ∨ c = 4) (hr : 0 < s.r c) : (s.take c).vl = s.vl + (c - 1) := by
 have h2 := h 2 (by simp)
 have h3 := h 3 (by simp)
 have h4 := h 4 (by simp)
 unfold Cn.vl Cn.take
 rcases hc with rfl | rfl | rfl <;> simp <;> omega
theorem Cn.Ok.dn (h : s.Ok) : s.dn ≤ 36 := by
 have h2 := h 2 (by simp)
 have h3 := h 3 (by simp)
 have h4 := h 4 (by simp)
 unfold Cn.dn
 omega
end
theorem hN : sR.h.n = 770 := by kernel_rfl
/-! ### A pass -/
section
variable [CV] {s : Cn} {ps : List Int} {pk : Pk} {i n c : Nat}
theorem tabI1_ok {neg : Bool} (hi : i < ps.length) (hl : ps.length < 100) (hp : decide (ps.getD i 0 < 0) = neg) : ∀ e ∈ tabI1 neg, @RlOk (syR s ps pk i n c) Tryz.prog e := by
 intro e he
 unfold tabI1 at he
 simp only [List.mem_cons, List.mem_nil_iff, or_false] at he
 rcases he with rfl | rfl | rfl
 · exact ⟨fun t => bin_ii (by decide) (congrArg some (by
    show decide ((i : Int) < (ps.length : Int)) = true
    rw [decide_eq_true_eq]
    omega)), by intro h; cases h⟩
 · exact ⟨fun t => bin_ii (by decide) (congrArg some hp), by intro h; cases h⟩
 · exact ⟨fun t => bin_add ((wrapI64 (by omega)).trans (by omega)), by intro h; cases h⟩
theorem tabI2_ok {q : Nat} (hi : i < ps.length) (hl : ps.length < 100) (hp : ¬ ps.getD i 0 < 0) (hq : (ps.getD i 0).tmod 4 = q) : ∀ e ∈ tabI2 q, @RlOk (syR s ps pk i n c) Tryz.prog e := by
 intro e he
 rcases List.mem_cons.1 he with rfl | he
 · exact ⟨fun t => bin_rem (by decide) hq, by intro h; cases h⟩
 · exact tabI1_ok hi hl (by rw [decide_eq_false_iff_not]; exact hp) e he
/-- No line waits. -/
theorem v0c {c' : Nat} (hc : c' = 1 ∨ ((c' = 2 ∨ c' = 3 ∨ c' = 4) ∧ s.r c' = 0)) : (syR s ps pk i n c).v (30 + c') = .nils ∨ ∃ k o z a j, (syR s ps pk i n c).v (30 + c') = .stl k o z a j := by
 have go : ∀ t k, nbA (bufP t 0 k) = .nils ∨ ∃ k' o z a j, nbA (bufP t 0 k) = .stl k' o z a j := by
  intro t k
  rw [nbA_buf]
  unfold bufP
  cases Nat.beq t 0
  · right
    exact ⟨_, _, _, _, _, rfl⟩
  · exact .inl rfl
 rcases hc with rfl | ⟨rfl | rfl | rfl, h⟩
 · exact .inl rfl
 · have := go (s.t 2) 2
   rw [← h] at this
   exact this
 · have := go (s.t 3) 3
   rw [← h] at this
   exact this
 · have := go (s.t 4) 4
   rw [← h] at this
   exact this
theorem tabNo_ok {c' : Nat} (hc : c' = 1 ∨ ((c' = 2 ∨ c' = 3 ∨ c' = 4) ∧ s.r c' = 0)) : ∀ e ∈ tabNo c', @RlOk (syR s ps pk i n c) Tryz.prog e := by
 intro e he
 unfold tabNo at he
 simp only [List.mem_cons, List.mem_nil_iff, or_false] at he
 subst he
 show evLenP Tryz.prog 23 (ov ((syR s ps pk i n c).v (30 + c'))) = some (ov (.i .i64 0))
 unfold evLenP
 rcases v0c (ps := ps) (pk := pk) (i := i) (n := n) (c := c) hc with h | ⟨k, o, z, a, j, h⟩ <;> (rw [h]; simp only [t23, ov, lenIn]; rfl)
theorem xlNo_ok {w0 : World} {c' : Nat} (hc : c' = 1 ∨ ((c' = 2 ∨ c' = 3 ∨ c' = 4) ∧ s.r c' = 0)) : ∀ e ∈ xlNo c', @XlOk (syR s ps pk i n c) Tryz.prog w0 e := by
 intro e he
 unfold xlNo at he
 simp only [List.mem_cons, List.mem_nil_iff, or_false] at he
 subst he
 intro h _ E w vs hvs hr
 have hvs' : @All2 AV Value (@VV (syR s ps pk i n c) E) [.v (.one ((syR s ps pk i n c).v (30 + c'))), .v (.one (.i .u8 10))] vs := hvs
 have hy : evExt 1 h [.v (.one ((syR s ps pk i n c).v (30 + c'))), .v (.one (.i .u8 10))] = some (.v (.one (.i .i64 (-1)))) := by
  rcases v0c (ps := ps) (pk := pk) (i := i) (n := n) (c := c) hc with h | ⟨k, o, z, a, j, h⟩ <;> (rw [h]; rfl)
 exact @ext12_ok (syR s ps pk i n c) Tryz.prog w0 274 1 _ Tryz.func274 (by kernel_rfl) (by kernel_rfl) (by kernel_rfl) (.inl ⟨rfl, by kernel_rfl⟩) _ _ _ hy E w vs hvs' hr
theorem ruP_ok {S : Sy} {w0 : World} {tab : List Rl} (hp : @RuOk S Tryz.prog w0 ruPk) (ht : ∀ e ∈ tab, @RlOk S Tryz.prog e) : @RuOk S Tryz.prog w0 (ruP Tryz.prog tab) := by
 intro A n h o v us hx E a w ha hr
 unfold ruP at hx
 split at hx
 · rename_i r h1
   cases hx
   exact hp A n h o v us h1 E a w ha hr
 · exact @ruAll_ok S _ _ _ ht A n h o v us hx E a w ha hr
theorem KP_ok {S : Sy} {w0 : World} {tab : List Rl} {xl : List Xl} (hp : @RuOk S Tryz.prog w0 ruPk) (ht : ∀ e ∈ tab, @RlOk S Tryz.prog e) (hx : ∀ e ∈ xl, @XlOk S Tryz.prog w0 e) : @HkOk S Tryz.prog w0 (KP tab xl) :=
 @HkOk.mk S _ _ _ (@exT_ok S w0 Tryz.prog _ _ hx (exI_ok (@exB_ok S w0))) (ruP_ok hp ht) (@rpT_ok S _ _ ht) (@lo0_ok S w0)
theorem KP0_ok {S : Sy} {w0 : World} {tab : List Rl} (ht : ∀ e ∈ tab, @RlOk S Tryz.prog e) : @HkOk S Tryz.prog w0 (KP0 tab) :=
 @HkOk.mk S _ _ _ (exI_ok (@exB_ok S w0)) (@ruAll_ok S _ _ _ ht) (@rpT_ok S _ _ ht) (@lo0_ok S w0)
/-- The letters stay but for the place among the picks. -/
theorem let_no {c2 : Nat} (hk : pk.Ok) : LetV (syR s ps pk i n c) (syR s ps pk (i + 1) n c2) [] 770 gNo := by
 refine ⟨fun _ => rfl, ?_⟩
 intro p hp
 simp only [gNo, List.mem_cons, List.mem_nil_iff, or_false] at hp
 rcases hp with rfl | rfl | rfl | rfl | rfl | rfl | rfl | rfl | rfl | rfl
 · exact sim_plain rfl
 · exact sim_plain rfl
 · exact sim_sl rfl rfl
 · exact hk.sl _ rfl
 · exact sim_plain rfl
 · exact sim_plain rfl
 · exact sim_plain rfl
 · exact sim_buf rfl rfl
 · exact sim_buf rfl rfl
 · exact sim_buf rfl rfl
theorem let_end {g : List (Nat × A1)} (hk : pk.Ok) (hg : g = (23, .y 23) :: gNo.filter fun p => !(Nat.beq p.1 23)) : LetV (syR s ps pk i n c) (syR s ps pk i n c) [] 770 g := by
 subst hg
 refine ⟨fun _ => rfl, ?_⟩
 intro p hp
 have hp : p ∈ [(23, A1.y 23), (0, .y 0), (1, .y 1), (2, .y 2), (21, .y 21), (22, .y 22), (27, .y 27), (32, .y 32), (33, .y 33), (34, .y 34)] := hp
 simp only [List.mem_cons, List.mem_nil_iff, or_false] at hp
 rcases hp with rfl | rfl | rfl | rfl | rfl | rfl | rfl | rfl | rfl | rfl
 · exact sim_plain rfl
 · exact sim_plain rfl
 · exact sim_plain rfl
 · exact sim_sl rfl rfl
 · exact hk.sl _ rfl
 · exact sim_plain rfl
 · exact sim_plain rfl
 · exact sim_buf rfl rfl
 · exact sim_buf rfl rfl
 · exact sim_buf rfl rfl
theorem obj_no {i2 n2 c2 : Nat} (ho : pk.Ok) : LetH (syR s ps pk i n c) (syR s ps pk i2 n2 c2) [] 770 oNo := by
 intro p hp
 simp only [oNo, List.mem_cons, List.mem_nil_iff, or_false] at hp
 rcases hp with rfl | rfl | rfl | rfl | rfl
 · exact sim_log (logO_len _)
 · exact sim_bufO
 · exact sim_bufO
 · exact sim_bufO
 · exact ho.o _
theorem let_yes {c2 : Nat} (hk : pk.Ok) (g : Good1 s c) : LetV (syR s ps pk i n c) (syR (s.take c) ps pk (i + 1) (n + 1) c2) fP 770 (gP c) := by
 have hd := take_dn g.ok g.hc g.r
 have hv := take_vl g.ok g.hc g.r
 have buf : ∀ q, q = 2 ∨ q = 3 ∨ q = 4 → q ≠ c → sim1 fP 770 [] (nbA (bufP ((s.take c).t q) ((s.take c).r q) q)) (nbA (bufP (s.t q) (s.r q) q)) = true := by
  intro q hq hne
  have e1 : (s.take c).r q = s.r q := by
   show (if q = c then s.r c - 1 else s.r q) = _
   rw [if_neg hne]
  rw [e1]
  rcases hq with rfl | rfl | rfl <;> exact sim_buf rfl rfl
 have bufc : ∀ q, q = c → sim1 fP 770 [] (nbA (bufP ((s.take c).t q) ((s.take c).r q) q)) (nbA (bufP (s.t c) (s.r c - 1) c)) = true := by
  intro q hq
  subst hq
  have e1 : (s.take q).r q = s.r q - 1 := by
   show (if q = q then s.r q - 1 else s.r q) = _
   rw [if_pos rfl]
  rw [e1]
  rcases g.hc with rfl | rfl | rfl <;> exact sim_buf rfl rfl
 refine ⟨fun _ => rfl, ?_⟩
 intro p hp
 have h7 : ∀ q, q = 2 ∨ q = 3 ∨ q = 4 → p = (30 + q, bif Nat.beq (30 + q) (30 + c) then .y 7 else .y (30 + q)) → sim1 fP 770 [] ((syR (s.take c) ps pk (i + 1) (n + 1) c2).v p.1) (@A1.den (syR s ps pk i n c) p.2) = true := by
  intro q hq hp
  subst hp
  by_cases hqc : q = c
  · have e : Nat.beq (30 + q) (30 + c) = true := by rw [hqc]; exact Nat.beq_refl _
    simp only [e, cond_true]
    have := bufc q hqc
    rcases hq with rfl | rfl | rfl <;> exact this
  · have e : Nat.beq (30 + q) (30 + c) = false := by
     cases hb : Nat.beq (30 + q) (30 + c) with
     | false => rfl
     | true => have := Nat.eq_of_beq_eq_true hb; omega
    simp only [e, cond_false]
    have := buf q hq hqc
    rcases hq with rfl | rfl | rfl <;> exact this
 simp only [gP, List.map_cons, List.map_nil, List.cons_append, List.nil_append, List.mem_cons, List.mem_nil_iff, or_false] at hp
 rcases hp with rfl | rfl | rfl | rfl | rfl | rfl | rfl | hp | hp | hp
 · show sim1 fP 770 [] (.i .u64 ((1 + (s.take c).dn : Nat) : Int)) (.i .u64 ((1 + s.dn + 1 : Nat) : Int)) = true
   rw [hd]
   exact sim_plain rfl
 · show sim1 fP 770 [] (.s (txt (s.take c).vl)) (.s (txt (s.vl + (c - 1)))) = true
   rw [hv]
   exact sim_plain rfl
 · show sim1 fP 770 [] (.sl 591 0 (1 + (s.take c).dn) (.un 0)) (.sl 880 0 (1 + s.dn + 1) (.un 0)) = true
   rw [hd]
   exact sim_sl rfl rfl
 · exact hk.sl _ rfl
 · exact sim_plain rfl
 · exact sim_plain rfl
 · exact sim_plain rfl
 · exact h7 2 (by simp) hp
 · exact h7 3 (by simp) hp
 · exact h7 4 (by simp) hp
theorem obj_yes {c2 : Nat} (ho : pk.Ok) (g : Good1 s c) : LetH (syR s ps pk i n c) (syR (s.take c) ps pk (i + 1) (n + 1) c2) fP 770 oP := by
 have hd := take_dn g.ok g.hc g.r
 intro p hp
 simp only [oP, List.mem_cons, List.mem_nil_iff, or_false] at hp
 rcases hp with rfl | rfl | rfl | rfl | rfl
 · show simO fP 770 [] [] (.row 71 18 (logO (1 + (s.take c).dn))) (.row 71 18 (logO (1 + s.dn) ++ entryC c)) = true
   refine sim_log ?_
   rw [List.length_append, logO_len, hd]
   show (1 + s.dn) * 18 + 18 = _
   omega
 · exact sim_bufO
 · exact sim_bufO
 · exact sim_bufO
 · exact ho.o _
end
def deadR : List Nat := [575, 577, 591]
theorem keeps_no : (List.range 770).all (fun k => Nat.beq (nmF [] k) k || deadR.any (Nat.beq k)) = true := by kernel_rfl
theorem keeps_yes : (List.range 770).all (fun k => Nat.beq (nmF fP k) k || deadR.any (Nat.beq k)) = true := by kernel_rfl
theorem passNo {q : Nat} (hq : q < 4) : chkR .normal [] gNo oNo sR (passOf (KP (tabI2 q ++ tabNo (q + 1)) (xlNo (q + 1))) 3000 17 (false :: false :: way17) sR) = true := by
 obtain rfl | rfl | rfl | rfl : q = 0 ∨ q = 1 ∨ q = 2 ∨ q = 3 := by omega
 · exact pass_no0
 · exact pass_no1
 · exact pass_no2
 · exact pass_no3
theorem passLine {q : Nat} (hq : q = 1 ∨ q = 2 ∨ q = 3) : chkR .normal fP (gP (q + 1)) oP sR (passOf (KP (tabI2 q ++ tabP (q + 1)) (xlP (q + 1))) 3000 17 (false :: false :: way17) sR) = true := by
 rcases hq with rfl | rfl | rfl
 · exact pass_line1
 · exact pass_line2
 · exact pass_line3
theorem mem_app {α : Type} {P : α → Prop} {l m : List α} (h1 : ∀ e ∈ l, P e) (h2 : ∀ e ∈ m, P e) : ∀ e ∈ l ++ m, P e := fun e he => (List.mem_append.1 he).elim (h1 e) (h2 e)
/-- A pass of Run's loop. -/
theorem run_pass [CV] {s : Cn} {ps : List Int} {pk : Pk} {i : Nat} {w0 : World} (hpk : pk.Ok) (hru : pk.Ru ps w0) (hs : s.Ok) (hl : ps.length < 100) (hi : i < ps.length) {b : Code} (hat : AtWay Tryz.prog 17 (false :: false :: way17) b) {E : List Ent} {a : Act} {w : World} (ha : @AR (famR s ps pk i) E sR.A sR.n a) (hr : @Rep (famR s ps pk i) w0 E sR.h w) :
  b.wp Tryz.prog (fun e a' w' => e = .normal ∧ ∃ E', Keeps 770 deadR E E' ∧ @AR (famR s ps pk (i + 1)) E' sR.A sR.n a' ∧ @Rep (famR s ps pk (i + 1)) w0 E' sR.h w') a w := by
 have hfree : freeH sR.h := freeB_ok free_R
 have hb : sR.h.n ≤ 2 ^ D := by rw [hN]; decide
 have hok := runC_ok hs ps i
 have hnle := runC_le s ps i
 have hlen : 770 ≤ E.length := by rw [@Rep.len (famR s ps pk i) w0 E sR.h w hr, hN]; exact Nat.le_refl _
 obtain ⟨p, hp⟩ : ∃ p, p = ps.getD i 0 := ⟨_, rfl⟩
 have no : ∀ (K : Hk), @HkOk (famR s ps pk i) Tryz.prog w0 K → chkR .normal [] gNo oNo sR (passOf K 3000 17 (false :: false :: way17) sR) = true → lineOf (runC s ps i).1 (ps.getD i 0) = 0 →
   b.wp Tryz.prog (fun e a' w' => e = .normal ∧ ∃ E', Keeps 770 deadR E E' ∧ @AR (famR s ps pk (i + 1)) E' sR.A sR.n a' ∧ @Rep (famR s ps pk (i + 1)) w0 E' sR.h w') a w := by
  intro K hk hc h0
  have hv : LetV (famR s ps pk i) (famR s ps pk (i + 1)) [] sR.h.n gNo := by
   rw [hN]
   unfold famR
   rw [runC_no h0]
   exact let_no hpk
  have ho : LetH (famR s ps pk i) (famR s ps pk (i + 1)) [] sR.h.n oNo := by
   rw [hN]
   unfold famR
   rw [runC_no h0]
   exact obj_no hpk
  refine wp_mono (pass_ok hk hc hat hfree hb hv ho ha hr) ?_
  rintro e a' w' ⟨h1, E1, E', h2, h3, h4, h5⟩
  rw [hN] at h3
  exact ⟨h1, E', keeps_pass h2 h3 hlen (Nat.le_refl _) keeps_no, h4, h5⟩
 by_cases hneg : ps.getD i 0 < 0
 · exact no _ (KP_ok (hru _ _ _ _ hi) (tabI1_ok hi hl (by rw [decide_eq_true_eq]; exact hneg)) (fun e he => by simp at he)) pass_neg (by unfold lineOf; rw [if_pos hneg])
 · obtain ⟨q, hq⟩ : ∃ q, q = ((ps.getD i 0).tmod 4).toNat := ⟨_, rfl⟩
   have hq4 : (ps.getD i 0).tmod 4 = q := by
    have h1 : 0 ≤ (ps.getD i 0).tmod 4 := Int.tmod_nonneg _ (by omega)
    omega
   have hq5 : q < 4 := by
    have h1 : (ps.getD i 0).tmod 4 < 4 := Int.tmod_lt_of_pos _ (by decide)
    omega
   by_cases h0 : q = 0 ∨ (runC s ps i).1.r (q + 1) = 0
   · have hc : q + 1 = 1 ∨ ((q + 1 = 2 ∨ q + 1 = 3 ∨ q + 1 = 4) ∧ (runC s ps i).1.r (q + 1) = 0) := by
      rcases h0 with h0 | h0
      · left; omega
      · by_cases hq0 : q = 0
        · left; omega
        · right; exact ⟨by omega, h0⟩
     exact no _ (KP_ok (hru _ _ _ _ hi) (mem_app (tabI2_ok hi hl hneg hq4) (tabNo_ok hc)) (xlNo_ok hc)) (passNo hq5) (lineOf_no hneg hq.symm h0)
   · have hl1 := lineOf_yes (s := (runC s ps i).1) hneg hq.symm (by omega) (by omega)
     have hg : Good1 (runC s ps i).1 (q + 1) := ⟨by omega, hok, by omega⟩
     have hf : famR s ps pk i = syR (runC s ps i).1 ps pk i (runC s ps i).2 (q + 1) := by
      unfold famR
      rw [hl1]
     have hf2 : famR s ps pk (i + 1) = syR ((runC s ps i).1.take (q + 1)) ps pk (i + 1) ((runC s ps i).2 + 1) (lineOf (runC s ps (i + 1)).1 (ps.getD (i + 1) 0)) := by
      unfold famR
      rw [runC_yes hl1 (by omega)]
     rw [hf] at ha hr
     rw [hf2]
     have hk : @HkOk (syR (runC s ps i).1 ps pk i (runC s ps i).2 (q + 1)) Tryz.prog w0 (KP (tabI2 q ++ tabP (q + 1)) (xlP (q + 1))) := KP_ok (hru _ _ _ _ hi) (mem_app (tabI2_ok hi hl hneg hq4) (tabP_ok hg (by omega))) (xlP_ok hg)
     refine wp_mono (pass_ok hk (passLine (by omega)) hat hfree hb (S2 := syR ((runC s ps i).1.take (q + 1)) ps pk (i + 1) ((runC s ps i).2 + 1) (lineOf (runC s ps (i + 1)).1 (ps.getD (i + 1) 0))) (by rw [hN]; exact let_yes hpk hg) (by rw [hN]; exact obj_yes hpk hg) ha hr) ?_
     rintro e a' w' ⟨h1, E1, E', h2, h3, h4, h5⟩
     rw [hN] at h3
     exact ⟨h1, E', keeps_pass h2 h3 hlen (Nat.le_refl _) keeps_yes, h4, h5⟩
theorem run_last [CV] {s : Cn} {ps : List Int} {pk : Pk} {w0 : World} (hpk : pk.Ok) {b : Code} (hat : AtWay Tryz.prog 17 (false :: false :: way17) b) {E : List Ent} {a : Act} {w : World} (ha : @AR (famR s ps pk ps.length) E sR.A sR.n a) (hr : @Rep (famR s ps pk ps.length) w0 E sR.h w) :
  b.wp Tryz.prog (fun e a' w' => e = toExit (.exit 0) ∧ ∃ E', Keeps 770 deadR E E' ∧ @AR (famR s ps pk ps.length) E' sR.A sR.n a' ∧ @Rep (famR s ps pk ps.length) w0 E' sR.h w') a w := by
 have hfree : freeH sR.h := freeB_ok free_R
 have hb : sR.h.n ≤ 2 ^ D := by rw [hN]; decide
 have hlen : 770 ≤ E.length := by rw [@Rep.len (famR s ps pk ps.length) w0 E sR.h w hr, hN]; exact Nat.le_refl _
 have hk : @HkOk (famR s ps pk ps.length) Tryz.prog w0 (KP0 (tabI0 false)) := KP0_ok (fun e he => by
  simp only [tabI0, List.mem_cons, List.mem_nil_iff, or_false] at he
  subst he
  exact ⟨fun t => bin_ii (by decide) (congrArg some (by
   show decide (((ps.length : Nat) : Int) < (ps.length : Int)) = false
   rw [decide_eq_false_iff_not]
   omega)), by intro h; cases h⟩)
 refine wp_mono (pass_ok hk pass_end hat hfree hb (by rw [hN]; exact let_end hpk rfl) (by rw [hN]; exact obj_no hpk) ha hr) ?_
 rintro e a' w' ⟨h1, E1, E', h2, h3, h4, h5⟩
 rw [hN] at h3
 exact ⟨h1, E', keeps_pass h2 h3 hlen (Nat.le_refl _) keeps_no, h4, h5⟩
end Go.Ev
namespace Go.Ev
open Go Go.RowKit Go.Proofs
/-- The picks by a name. -/
def pkA (ps : List Int) : Pk := ⟨.sl 0 0 ps.length (.ex 4), fun i => .p 0 i, .cells 3 (ps.map fun p => .i .i64 p)⟩
/-- The picks in the world ahead. -/
def pkB : Pk := ⟨.c 1, fun i => .c (i + 2), .row 5 1 [.i .u8 83, .i .u8 84, .i .u8 79, .i .u8 82, .i .u8 69, .i .u8 68, .i .u8 13, .i .u8 10]⟩
theorem pkA_ok (ps : List Int) : (pkA ps).Ok := ⟨fun fl h => sim_sl rfl h, fun fl => sim_ints⟩
theorem pkB_ok : pkB.Ok := ⟨fun fl h => rfl, fun fl => rfl⟩
theorem pkA_ru [CV] (ps : List Int) (w0 : World) : (pkA ps).Ru ps w0 := by
 intro s i n c hi A n' h o v us hx E a w ha hr
 letI : Sy := syR s ps (pkA ps) i n c
 obtain ⟨dst, op, ty, pos, after, guard⟩ := o
 unfold ruPk at hx
 simp only at hx
 split at hx
 · rename_i t x j
   split at hx
   · rename_i hc
     obtain ⟨rfl, h1, h2⟩ := hc
     cases hx
     refine turns_pure ha hr ?_
     simp only [evPure, evA_den, h1, h2, Option.map_some, Option.bind_some]
     show evIndexAddr Tryz.prog 40 (ov (.sl 0 0 ps.length (.ex 4))) (ov (.i .i64 (i : Nat))) = some (ov (.p 0 i))
     unfold evIndexAddr
     simp only [t40, ov, intOf]
     rw [if_pos (by omega), s3, Option.map_some]
     simp
   · cases hx
 · rename_i t x
   split at hx
   · rename_i hc
     obtain ⟨rfl, h1, h2⟩ := hc
     cases hx
     refine turns_read ha hr ?_
     simp only [evRead, evA_den, h1, Option.map_some, Option.bind_some]
     have hg : (denH h).get 0 = some (.cells 3 (ps.map fun p => .i .i64 p)) := get_den_y h2
     show evLoad Tryz.prog 3 (ov (.p 0 i)) (denH h) = some (ov (.i .i64 (ps.getD i 0)))
     unfold evLoad
     simp only [ov, hg, Option.bind_some, rowOf, g3]
     rw [List.getElem?_map, List.getD_eq_getElem?_getD, List.getElem?_eq_getElem hi]
     rfl
   · cases hx
 · cases hx
/-- The picks lie in the world ahead. -/
def OrdOk [CV] (w0 : World) (ps : List Int) : Prop := ∃ base cap, CV.c 0 = .slice base ps.length cap ∧ ∀ i, i < ps.length → ∃ ad, base = some ad ∧ CV.c (i + 1) = .pointer (some (ad.add i)) ∧ (ad.add i).block < w0.heap.size ∧ w0.cell? (ad.add i) = some (.int .i64 (ps.getD i 0))
theorem pkB_ru [CV] {ps : List Int} {w0 : World} (ho : OrdOk w0 ps) : pkB.Ru ps w0 := by
 intro s i n c hi A n' h o v us hx E a w ha hr
 letI : Sy := syR s ps pkB i n c
 obtain ⟨base, cap, hsl, hat⟩ := ho
 obtain ⟨ad, rfl, hp, hb, hcell⟩ := hat i hi
 obtain ⟨dst, op, ty, pos, after, guard⟩ := o
 unfold ruPk at hx
 simp only at hx
 split at hx
 · rename_i t x j
   split at hx
   · rename_i hc
     obtain ⟨rfl, h1, h2⟩ := hc
     cases hx
     have e1 : a.eval x = CV.c 0 := evA_ok ha x _ h1
     have e2 : a.eval j = .int .i64 (i : Nat) := evA_ok ha j _ h2
     refine ⟨E, w, .pointer (some (ad.add i)), Pre.refl E, hr, hp.symm, .inl ?_⟩
     have hin : (0 : Int) ≤ (i : Nat) ∧ ((i : Nat) : Int) < (ps.length : Int) := ⟨by omega, by omega⟩
     simp [execOp, e1, e2, hsl, Instr.indexAt, asIntOf, run_underlying t40, run_size s3, hin]
     intro h9
     omega
   · cases hx
 · rename_i t x
   split at hx
   · rename_i hc
     obtain ⟨rfl, h1, h2⟩ := hc
     cases hx
     have e1 : a.eval x = CV.c (i + 1) := evA_ok ha x _ h1
     have hcw : w.cell? (ad.add i) = some (.int .i64 (ps.getD i 0)) := by rw [hr.below.cell hb]; exact hcell
     refine ⟨E, w, .int .i64 (ps.getD i 0), Pre.refl E, hr, rfl, .inl ?_⟩
     simp [execOp, e1, hp, Instr.loadAt, Instr.sureAddr, loadVar, run_agg g3, run_load, hcw]
   · cases hx
 · cases hx
end Go.Ev
namespace Go.Ev
open Go Go.RowKit Go.Proofs
/-- A loop: where; its head's state, by the names and letters of the state ahead; the state behind. -/
structure LoR where
 f : Nat
 p : List Bool
 s0 : St
 fl : List (Nat × Nat)
 g : List (Nat × A1)
 ol : List (Nat × AO)
 sX : St
 x : X
 flOut : List (Nat × Nat)
 dead : List Nat
def LoR.hit (r : LoR) (s : St) : Bool := Nat.ble s.h.n r.sX.h.n && chkSt r.fl r.g r.ol r.s0 s && backB r.fl r.flOut s.h.n r.s0.h.n r.dead
def loR (tab : List LoR) (f : Nat) (p : List Bool) (s : St) : Option (X × St) := match tab with
 | [] => none
 | r :: l => bif Nat.beq f r.f then (if p = r.p then (bif r.hit s then some (r.x, r.sX) else loR l f p s) else loR l f p s) else loR l f p s
def LoROk (S : Sy) (w0 : World) (r : LoR) : Prop := ∀ s, r.hit s = true → ∀ c, AtWay Tryz.prog r.f r.p c → ∀ E a w, @AR S E s.A s.n a → @Rep S w0 E s.h w → c.wp Tryz.prog (@Post S w0 E r.x r.sX) a w
theorem loR_ok {S : Sy} {w0 : World} : ∀ {tab : List LoR}, (∀ r ∈ tab, LoROk S w0 r) → @LoOk S Tryz.prog w0 (loR tab)
 | [], _ => fun f p s s' x h => by cases h
 | r :: l, ht => by
  have ih := loR_ok (tab := l) fun q hq => ht q (List.mem_cons_of_mem _ hq)
  intro f p s s' x h
  unfold loR at h
  cases hb : Nat.beq f r.f with
  | false =>
   rw [hb] at h
   exact ih f p s s' x h
  | true =>
   rw [hb, cond_true] at h
   split at h
   · rename_i hp
     cases hh : r.hit s with
     | false =>
      rw [hh] at h
      exact ih f p s s' x h
     | true =>
      rw [hh] at h
      cases h
      rw [Nat.eq_of_beq_eq_true hb, hp]
      exact ht r List.mem_cons_self s hh
   · exact ih f p s s' x h
noncomputable def KL (tab : List Rl) (xl : List Xl) (ex : CallT) (lo : List LoR) : Hk := ⟨exT xl ex, ruAll Tryz.prog tab, pureT tab, loR lo⟩
theorem KL_ok {S : Sy} {w0 : World} {tab : List Rl} {xl : List Xl} {ex : CallT} {lo : List LoR} (ht : ∀ e ∈ tab, @RlOk S Tryz.prog e) (hx : ∀ e ∈ xl, @XlOk S Tryz.prog w0 e) (he : @CallOk S Tryz.prog w0 ex) (hl : ∀ r ∈ lo, LoROk S w0 r) : @HkOk S Tryz.prog w0 (KL tab xl ex lo) :=
 @HkOk.mk S _ _ _ (@exT_ok S w0 Tryz.prog _ _ hx he) (@ruAll_ok S _ _ _ ht) (@rpT_ok S _ _ ht) (loR_ok hl)
theorem run_row [CV] {S : Sy} {w0 : World} {s : Cn} {ps : List Int} {pk : Pk} (hpk : pk.Ok) (hru : pk.Ru ps w0) (hs : s.Ok) (hl : ps.length < 100) {r : LoR} (h1 : r.f = 17) (h2 : r.p = way17) (h3 : r.s0 = sR) (h4 : r.x = .normal) (h5 : r.dead = deadR) {gOut : List (Nat × A1)} {oOut : List (Nat × AO)}
  (hv0 : LetV S (famR s ps pk 0) r.fl 770 r.g) (ho0 : LetH S (famR s ps pk 0) r.fl 770 r.ol) (hout : chkSt r.flOut gOut oOut r.sX sR = true) (hfX : freeB r.sX.h = true) (hbX : Nat.ble r.sX.h.n 2048 = true)
  (hvX : LetV (famR s ps pk ps.length) S r.flOut r.sX.h.n gOut) (hoX : LetH (famR s ps pk ps.length) S r.flOut r.sX.h.n oOut) : LoROk S w0 r := by
 obtain ⟨f, p, s0, fl, g, ol, sX, x, flOut, dead⟩ := r
 simp only at h1 h2 h3 h4 h5
 subst h1 h2 h3 h4 h5
 intro s' hit c hat E a w ha hr
 unfold LoR.hit at hit
 simp only [Bool.and_eq_true] at hit
 obtain ⟨⟨g1, g2⟩, g3⟩ := hit
 refine lo_row (sf := fun _ => sR) (fam := famR s ps pk) (m := ps.length) (id := 0) (xL := .exit 0) hat (by kernel_rfl) g2 (freeB_ok free_R) (by rw [hN]; decide) (by rw [hN]; exact hv0) (by rw [hN]; exact ho0) ?_ ?_ (by intro h; cases h) rfl hout (freeB_ok hfX) (Nat.le_of_ble_eq_true hbX) hvX hoX g1 g3 ha hr
 · intro i hi b hb E a w ha hr
   rw [hN]
   exact run_pass hpk hru hs hl hi hb ha hr
 · intro b hb E a w ha hr
   rw [hN]
   exact run_last hpk hb ha hr
/-- Run's result, by letters. -/
def gOutR : List (Nat × A1) := [(70, .y 0), (71, .y 1), (72, .y 2), (75, .y 32), (76, .y 33), (77, .y 34), (90, .y 27)]
def oOutR : List (Nat × AO) := [(70, .y 0), (12, .y 12), (13, .y 13), (14, .y 14)]
noncomputable def rowRun1 : LoR where
 f := 17
 p := way17
 s0 := sR
 fl := [(0, 587), (756, 575), (757, 577), (758, 591), (759, 0), (760, 0), (761, 0), (762, 0), (763, 0), (764, 0), (765, 0), (766, 0), (767, 0), (768, 0), (769, 0)]
 g := [(0, .i .u64 1), (1, .s [48]), (2, .sl 591 0 1 (.un 0)), (21, .y 21), (22, .y 22), (23, .i .i64 0), (27, .i .i64 0), (32, .y 32), (33, .y 33), (34, .y 34)]
 ol := [(0, .row 71 18 [.i .i64 1, .b true, .s [115, 116, 111, 114, 101], .s [115, 101, 116], .sl 498 0 1 (.ex 1), .s [48], .i .u32 0, .i .i64 0, .i .u64 0, .i .u64 0, .b false, .b false, .b false, .b false, .s [], .sl 579 0 1 (.ex 1), .b true, .i .i64 1000]), (12, .y 12), (13, .y 13), (14, .y 14), (20, .row 5 1 [.i .u8 83, .i .u8 84, .i .u8 79, .i .u8 82, .i .u8 69, .i .u8 68, .i .u8 13, .i .u8 10])]
 sX := sRX1
 x := .normal
 flOut := [(0, 759), (575, 756), (577, 757), (591, 758), (756, 575), (757, 577), (758, 591)]
 dead := deadR
noncomputable def rowRun2 : LoR where
 f := 17
 p := way17
 s0 := sR
 fl := [(0, 762), (575, 756), (577, 757), (591, 758), (763, 575), (764, 577), (765, 591), (766, 0), (767, 0), (768, 0), (769, 0)]
 g := [(0, .y 0), (1, .y 1), (2, .y 2), (21, .sl 762 0 4 (.ex 4)), (22, .i .i64 4), (23, .i .i64 0), (27, .i .i64 0), (32, .y 32), (33, .y 33), (34, .y 34)]
 ol := [(0, .y 0), (12, .y 12), (13, .y 13), (14, .y 14), (20, .cells 3 [.i .i64 0, .i .i64 1, .i .i64 2, .i .i64 3])]
 sX := sRX2
 x := .normal
 flOut := [(0, 766), (575, 763), (577, 764), (591, 765), (763, 575), (764, 577), (765, 591)]
 dead := deadR
theorem out_run1 : chkSt rowRun1.flOut gOutR oOutR sRX1 sR = true := by kernel_rfl
theorem out_run2 : chkSt rowRun2.flOut gOutR oOutR sRX2 sR = true := by kernel_rfl
theorem n_RX1 : sRX1.h.n = 759 := by kernel_rfl
theorem n_RX2 : sRX2.h.n = 766 := by kernel_rfl
end Go.Ev
