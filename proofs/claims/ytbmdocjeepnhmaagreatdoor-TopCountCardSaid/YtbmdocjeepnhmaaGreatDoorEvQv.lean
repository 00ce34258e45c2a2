/- TopCount's main letters: its tables are right; its loops' rows hold. -/
import Derived.Test.YtbmdocjeepnhmaaGreatDoorEvQu
import Derived.Test.YtbmdocjeepnhmaaGreatDoorEvYe
set_option linter.unusedVariables false
set_option linter.unusedSimpArgs false
set_option linter.unusedSectionVars false
namespace Go.Ev
open Go Go.RowKit Go.Proofs
theorem dn_full (n : Nat → Nat) : (Cn.mk n n).dn = 0 := by simp [Cn.dn]
theorem vl_full (n : Nat → Nat) : (Cn.mk n n).vl = 0 := by simp [Cn.vl]
structure Fp.Ok (F : Fp) : Prop where
 n : ∀ c, c = 2 ∨ c = 3 ∨ c = 4 → F.n c ≤ 12
 ps : F.ps.length ≤ 60
theorem Fp.Ok.cn {F : Fp} (h : F.Ok) : (Cn.mk F.n F.n).Ok := fun c hc => ⟨Nat.le_refl _, h.n c hc⟩
def fx (F : Fp) : Fx := ⟨(runC ⟨F.n, F.n⟩ F.ps F.ps.length).1, (runC ⟨F.n, F.n⟩ F.ps F.ps.length).2, allC (runC ⟨F.n, F.n⟩ F.ps F.ps.length).1 (runC ⟨F.n, F.n⟩ F.ps F.ps.length).1.m⟩
theorem end_vl (s : Cn) : (allC s s.m).vl = s.t 2 + 2 * s.t 3 + 3 * s.t 4 := by
 have ht := allC_t s s.m
 have r2 := allC_r s (q := 2) (by simp) s.m
 have r3 := allC_r s (q := 3) (by simp) s.m
 have r4 := allC_r s (q := 4) (by simp) s.m
 unfold Cn.vl
 rw [ht, r2, r3, r4]
 unfold Cn.m
 omega
theorem fx_sum (F : Fp) : (fx F).s3.vl = F.sum := by
 show (allC _ _).vl = _
 rw [end_vl, runC_t]
 unfold Fp.sum
 show F.n 2 + 2 * F.n 3 + 3 * F.n 4 = _
 omega
section
variable [CV] {F : Fp} {w0 : World}
theorem row1_in {G : Fx} {c : Nat} : LetV (syF F G) (syR ⟨F.n, F.n⟩ F.ps pkB 0 0 c) rowRun1.fl 770 rowRun1.g := by
 have e0 := dn_full F.n
 have e1 := vl_full F.n
 refine ⟨fun _ => rfl, ?_⟩
 intro p hp
 simp only [rowRun1, List.mem_cons, List.mem_nil_iff, or_false] at hp
 rcases hp with rfl | rfl | rfl | rfl | rfl | rfl | rfl | rfl | rfl | rfl
 · show sim1 rowRun1.fl 770 [] (.i .u64 ((1 + (Cn.mk F.n F.n).dn : Nat) : Int)) (.i .u64 1) = true
   rw [e0]
   rfl
 · show sim1 rowRun1.fl 770 [] (.s (txt (Cn.mk F.n F.n).vl)) (.s [48]) = true
   rw [e1]
   rfl
 · show sim1 rowRun1.fl 770 [] (.sl 591 0 (1 + (Cn.mk F.n F.n).dn) (.un 0)) (.sl 591 0 1 (.un 0)) = true
   rw [e0]
   rfl
 · rfl
 · exact sim_plain rfl
 · exact sim_plain rfl
 · exact sim_plain rfl
 · exact sim_buf rfl rfl
 · exact sim_buf rfl rfl
 · exact sim_buf rfl rfl
theorem row1_obj {G : Fx} {c : Nat} : LetH (syF F G) (syR ⟨F.n, F.n⟩ F.ps pkB 0 0 c) rowRun1.fl 770 rowRun1.ol := by
 have e0 := dn_full F.n
 intro p hp
 simp only [rowRun1, List.mem_cons, List.mem_nil_iff, or_false] at hp
 rcases hp with rfl | rfl | rfl | rfl | rfl
 · show simO rowRun1.fl 770 [] [] (.row 71 18 (logO (1 + (Cn.mk F.n F.n).dn))) (.row 71 18 _) = true
   rw [e0]
   exact sim_log rfl
 · exact sim_bufO
 · exact sim_bufO
 · exact sim_bufO
 · rfl
theorem row1_out {s2 s3 : Cn} {k2 i c : Nat} : LetV (syR s2 F.ps pkB i k2 c) (syF F ⟨s2, k2, s3⟩) rowRun1.flOut 759 gOutR :=
 vCons (vCons (vCons (vCons (vCons (vCons (vCons (vNil fun _ => rfl) (sim_plain rfl)) (sim_buf rfl rfl)) (sim_buf rfl rfl)) (sim_buf rfl rfl)) (sim_sl rfl rfl)) (sim_plain rfl)) (sim_plain rfl)
theorem row1_outO {s2 s3 : Cn} {k2 i c : Nat} (ht : s2.t = F.n) : LetH (syR s2 F.ps pkB i k2 c) (syF F ⟨s2, k2, s3⟩) rowRun1.flOut 759 oOutR := by
 obtain ⟨n, ps⟩ := F
 obtain ⟨t, r⟩ := s2
 simp only at ht
 subst ht
 exact hCons (hCons (hCons (hCons hNil sim_bufO) sim_bufO) sim_bufO) (sim_log (logO_len _))
theorem rowRun1_ok (hF : F.Ok) (ho : OrdOk w0 F.ps) : LoROk (syF F (fx F)) w0 rowRun1 := by
 have e1 : famR ⟨F.n, F.n⟩ F.ps pkB 0 = syR ⟨F.n, F.n⟩ F.ps pkB 0 0 (lineOf ⟨F.n, F.n⟩ (F.ps.getD 0 0)) := rfl
 have e2 : famR ⟨F.n, F.n⟩ F.ps pkB F.ps.length = syR (fx F).s2 F.ps pkB F.ps.length (fx F).k2 (lineOf (fx F).s2 (F.ps.getD F.ps.length 0)) := rfl
 have hl := hF.ps
 refine run_row (s := ⟨F.n, F.n⟩) (ps := F.ps) (pk := pkB) (gOut := gOutR) (oOut := oOutR) pkB_ok (pkB_ru ho) hF.cn (by omega) rfl rfl rfl rfl rfl ?_ ?_ out_run1 free_RX1 (by kernel_rfl) ?_ ?_
 · rw [e1]
   exact row1_in
 · rw [e1]
   exact row1_obj
 · show LetV (famR ⟨F.n, F.n⟩ F.ps pkB F.ps.length) (syF F (fx F)) rowRun1.flOut sRX1.h.n gOutR
   rw [n_RX1, e2]
   exact row1_out
 · show LetH (famR ⟨F.n, F.n⟩ F.ps pkB F.ps.length) (syF F (fx F)) rowRun1.flOut sRX1.h.n oOutR
   rw [n_RX1, e2]
   exact row1_outO (runC_t _ _ _)
theorem rowA_in {s2 s3 s' : Cn} {k2 n : Nat} : LetV (syF F ⟨s2, k2, s3⟩) (syAl s2 s' n 0) rowAll.fl 762 rowAll.g :=
 vCons (vCons (vCons (vCons (vCons (vCons (vCons (vNil fun _ => rfl) (sim_plain rfl)) (sim_buf rfl rfl)) (sim_buf rfl rfl)) (sim_buf rfl rfl)) (sim_sl rfl rfl)) (sim_plain rfl)) (sim_plain rfl)
theorem rowA_obj {s2 s3 s' : Cn} {k2 n : Nat} (ht : s2.t = F.n) : LetH (syF F ⟨s2, k2, s3⟩) (syAl s2 s' n 0) rowAll.fl 762 rowAll.ol := by
 obtain ⟨n, ps⟩ := F
 obtain ⟨t, r⟩ := s2
 simp only at ht
 subst ht
 exact hCons (hCons (hCons (hCons hNil sim_bufO) sim_bufO) sim_bufO) (sim_log (logO_len _))
theorem rowA_out {s2 s3 s' : Cn} {k2 n k : Nat} : LetV (syAl s3 s' n k) (syF F ⟨s2, k2, s3⟩) rowAll.flOut 762 gOutA :=
 vCons (vCons (vCons (vCons (vCons (vCons (vNil fun _ => rfl) (sim_buf rfl rfl)) (sim_buf rfl rfl)) (sim_buf rfl rfl)) (sim_sl rfl rfl)) (sim_plain rfl)) (sim_plain rfl)
theorem rowA_outO {s2 s3 s' : Cn} {k2 n k : Nat} (ht : s3.t = F.n) : LetH (syAl s3 s' n k) (syF F ⟨s2, k2, s3⟩) rowAll.flOut 762 oOutA := by
 obtain ⟨n, ps⟩ := F
 obtain ⟨t, r⟩ := s3
 simp only at ht
 subst ht
 exact hCons (hCons (hCons (hCons hNil sim_bufO) sim_bufO) sim_bufO) (sim_log (logO_len _))
theorem rowAll_ok (hF : F.Ok) : LoROk (syF F (fx F)) w0 rowAll := by
 have ht : (fx F).s2.t = F.n := runC_t _ _ _
 exact all_row (s := (fx F).s2) (runC_ok hF.cn _ _) rowA_in (rowA_obj ht) rowA_out (rowA_outO ((allC_t _ _).trans ht))
theorem rowsF_ok (hF : F.Ok) (ho : OrdOk w0 F.ps) : ∀ r ∈ rowsF, LoROk (syF F (fx F)) w0 r := by
 have hn := hF.n
 intro r hr
 simp only [rowsF, List.mem_cons, List.mem_nil_iff, or_false] at hr
 rcases hr with rfl | rfl | rfl | rfl | rfl
 · exact in_row (c := 0) (nn := 734) (new := 735) (by decide) (by have := hn 2 (by simp); show F.n 2 < 20; omega) n_I0 n_IX0 rfl free_I0 free_IX0 ipass0 iend0 iout0 keeps_I0 (fun _ => inV0) (fun _ => inO0) (fun _ => ieV0) (fun _ => ieO0) isV0 isO0 ixV0 ixO0
 · exact in_row (c := 1) (nn := 744) (new := 745) (by decide) (by have := hn 3 (by simp); show F.n 3 < 20; omega) n_I1 n_IX1 rfl free_I1 free_IX1 ipass1 iend1 iout1 keeps_I1 (fun _ => inV1) (fun _ => inO1) (fun _ => ieV1) (fun _ => ieO1) isV1 isO1 ixV1 ixO1
 · exact in_row (c := 2) (nn := 756) (new := 757) (by decide) (by have := hn 4 (by simp); show F.n 4 < 20; omega) n_I2 n_IX2 rfl free_I2 free_IX2 ipass2 iend2 iout2 keeps_I2 (fun _ => inV2) (fun _ => inO2) (fun _ => ieV2) (fun _ => ieO2) isV2 isO2 ixV2 ixO2
 · exact rowRun1_ok hF ho
 · exact rowAll_ok hF
end
/-! ### The main tables -/
/-- Numbers that are asked for: those of the three, what comes of them, how many picks. -/
structure Nums (S : Sy) (a b c : Int) : Prop where
 v50 : S.v 50 = .i .i64 a
 v51 : S.v 51 = .i .i64 b
 v52 : S.v 52 = .i .i64 c
 v53 : S.v 53 = .i .i64 a
 v54 : S.v 54 = .i .i64 (b * 2)
 v55 : S.v 55 = .i .i64 (c * 3)
 v56 : S.v 56 = .i .i64 a
 v57 : S.v 57 = .i .i64 (a + b * 2)
 v58 : S.v 58 = .i .i64 (a + b * 2 + c * 3)
theorem bin_mul {t : TypeId} {k : IntKind} {a b c : Int} (h : k.wrap (a * b) = c) : evBin Tryz.prog .mul t (ov (.i k a)) (ov (.i k b)) = some (ov (.i k c)) := by
 unfold evBin
 simp only [ov, if_true, h]
theorem rl_cmp {S : Sy} {op : BinOp} {i : Nat} {a b : Int} {r : Bool} (hv : S.v i = .i .i64 a) (ho : isCmp op = true) (h : cmpI op a b = some r) : @RlOk S Tryz.prog (.bin op (.y i) (.i .i64 b) (.b r)) := by
 refine ⟨fun t => ?_, ?_⟩
 · show evBin Tryz.prog op t (ov (S.v i)) (ov (.i .i64 b)) = some (ov (.b r))
   rw [hv]
   exact bin_ii ho h
 · show S.v i ≠ .nili
   rw [hv]
   intro h
   cases h
theorem rl_mul {S : Sy} {i j : Nat} {a b c : Int} (hv : S.v i = .i .i64 a) (hj : S.v j = .i .i64 c) (h : IntKind.wrap .i64 (a * b) = c) : @RlOk S Tryz.prog (.bin .mul (.y i) (.i .i64 b) (.y j)) := by
 refine ⟨fun t => ?_, ?_⟩
 · show evBin Tryz.prog .mul t (ov (S.v i)) (ov (.i .i64 b)) = some (ov (S.v j))
   rw [hv, hj]
   exact bin_mul h
 · show S.v i ≠ .nili
   rw [hv]
   intro h
   cases h
theorem rl_add {S : Sy} {x : A1} {i j : Nat} {a b c : Int} (hx : @A1.den S x = .i .i64 a) (hv : S.v i = .i .i64 b) (hj : S.v j = .i .i64 c) (h : IntKind.wrap .i64 (a + b) = c) : @RlOk S Tryz.prog (.bin .add x (.y i) (.y j)) := by
 refine ⟨fun t => ?_, ?_⟩
 · show evBin Tryz.prog .add t (ov (@A1.den S x)) (ov (S.v i)) = some (ov (S.v j))
   rw [hx, hv, hj]
   exact bin_add h
 · rw [hx]
   intro h
   cases h
section
variable {S : Sy} {a b c : Int}
theorem pre0 (h : Nums S a b c) (ha : 0 ≤ a ∧ a ≤ 12) : ∀ e ∈ tabPre 0 (.i .i64 0), @RlOk S Tryz.prog e := by
 intro e he
 simp only [tabPre, List.mem_cons, List.mem_nil_iff, or_false] at he
 rcases he with rfl | rfl | rfl | rfl
 · exact rl_cmp h.v50 rfl (congrArg some (by rw [decide_eq_false_iff_not]; omega))
 · exact rl_cmp h.v50 rfl (congrArg some (by rw [decide_eq_false_iff_not]; omega))
 · exact rl_mul h.v50 h.v53 (by rw [wrapI64 (by omega)]; omega)
 · exact rl_add rfl h.v53 h.v56 (by rw [wrapI64 (by omega)]; omega)
theorem pre1 (h : Nums S a b c) (ha : 0 ≤ a ∧ a ≤ 12) (hb : 0 ≤ b ∧ b ≤ 12) : ∀ e ∈ tabPre 1 (.y 56), @RlOk S Tryz.prog e := by
 intro e he
 simp only [tabPre, List.mem_cons, List.mem_nil_iff, or_false] at he
 rcases he with rfl | rfl | rfl | rfl
 · exact rl_cmp h.v51 rfl (congrArg some (by rw [decide_eq_false_iff_not]; omega))
 · exact rl_cmp h.v51 rfl (congrArg some (by rw [decide_eq_false_iff_not]; omega))
 · exact rl_mul h.v51 h.v54 (wrapI64 (by omega))
 · exact rl_add h.v56 h.v54 h.v57 (wrapI64 (by omega))
theorem pre2 (h : Nums S a b c) (ha : 0 ≤ a ∧ a ≤ 12) (hb : 0 ≤ b ∧ b ≤ 12) (hc : 0 ≤ c ∧ c ≤ 12) : ∀ e ∈ tabPre 2 (.y 57), @RlOk S Tryz.prog e := by
 intro e he
 simp only [tabPre, List.mem_cons, List.mem_nil_iff, or_false] at he
 rcases he with rfl | rfl | rfl | rfl
 · exact rl_cmp h.v52 rfl (congrArg some (by rw [decide_eq_false_iff_not]; omega))
 · exact rl_cmp h.v52 rfl (congrArg some (by rw [decide_eq_false_iff_not]; omega))
 · exact rl_mul h.v52 h.v55 (wrapI64 (by omega))
 · exact rl_add h.v57 h.v55 h.v58 (wrapI64 (by omega))
theorem pre3 (h : Nums S a b c) (ha : 0 ≤ a ∧ a ≤ 12) (hb : 0 ≤ b ∧ b ≤ 12) (hc : 0 ≤ c ∧ c ≤ 12) : ∀ e ∈ tabPre3, @RlOk S Tryz.prog e := mem_app (pre0 h ha) (mem_app (pre1 h ha hb) (pre2 h ha hb hc))
theorem bad0_ok {k : Nat} {x : Int} (hv : S.v (50 + k) = .i .i64 x) (hx : x < 0) : ∀ e ∈ bad0 k, @RlOk S Tryz.prog e := by
 intro e he
 simp only [bad0, List.mem_cons, List.mem_nil_iff, or_false] at he
 subst he
 exact rl_cmp hv rfl (congrArg some (by rw [decide_eq_true_eq]; omega))
theorem bad1_ok {k : Nat} {x : Int} (hv : S.v (50 + k) = .i .i64 x) (hx : 12 < x) : ∀ e ∈ bad1 k, @RlOk S Tryz.prog e := by
 intro e he
 simp only [bad1, List.mem_cons, List.mem_nil_iff, or_false] at he
 rcases he with rfl | rfl
 · exact rl_cmp hv rfl (congrArg some (by rw [decide_eq_false_iff_not]; omega))
 · exact rl_cmp hv rfl (congrArg some (by rw [decide_eq_true_eq]; omega))
end
end Go.Ev
namespace Go.Ev
open Go Go.RowKit Go.Proofs
theorem t3 : Tryz.prog.underlying 3 = some (.int .i64) := by kernel_rfl
theorem t35 : Tryz.prog.underlying 35 = some (.int .u64) := by kernel_rfl
theorem ruLen_ok {S : Sy} {w0 : World} {base : Option Addr} {m cap : Nat} (h21 : S.v 21 = .c 1) (h22 : S.v 22 = .i .i64 (m : Nat)) (hc : S.c 0 = .slice base m cap) : @RuOk S Tryz.prog w0 ruLen := by
 intro A n' h o v us hx E a w ha hr
 obtain ⟨dst, op, ty, pos, after, guard⟩ := o
 unfold ruLen at hx
 simp only at hx
 split at hx
 · rename_i c
   split at hx
   · rename_i hcal
     split at hx
     · rename_i hcc
       obtain ⟨h1, h2⟩ := hcc
       cases hx
       obtain ⟨u, hu, he⟩ := @args1 S E A n' a c _ ha h1
       have h0 := ty0 (t := 40) (l := []) h2
       have hu2 : u = .slice base m cap := by
        have h3 : @V0 S E (S.v 21) u := hu
        rw [h21] at h3
        exact h3.trans hc
       subst hu2
       refine ⟨E, w, .int .i64 (m : Nat), Pre.refl E, hr, ?_, .inl ?_⟩
       · show @V0 S E (S.v 22) _
         rw [h22]
         rfl
       · simp [execOp, resolve, hcal, he, invoke, builtin, Builtin.len_, h0, run_underlying t40, goInt]
     · cases hx
   · cases hx
 · cases hx
theorem KLL_ok {S : Sy} {w0 : World} {tab : List Rl} {xl : List Xl} {ex : CallT} {lo : List LoR} (hp : @RuOk S Tryz.prog w0 ruLen) (ht : ∀ e ∈ tab, @RlOk S Tryz.prog e) (hx : ∀ e ∈ xl, @XlOk S Tryz.prog w0 e) (he : @CallOk S Tryz.prog w0 ex) (hl : ∀ r ∈ lo, LoROk S w0 r) : @HkOk S Tryz.prog w0 (KLL tab xl ex lo) :=
 @HkOk.mk S _ _ _ (@exT_ok S w0 Tryz.prog _ _ hx he) (by
  intro A n h o v us hx E a w ha hr
  have hx : ruL Tryz.prog tab A h o = some (v, us) := hx
  unfold ruL at hx
  split at hx
  · rename_i r h1
    cases hx
    exact hp A n h o v us h1 E a w ha hr
  · exact @ruAll_ok S _ _ _ ht A n h o v us hx E a w ha hr) (@rpT_ok S _ _ ht) (loR_ok hl)
section
variable [CV] {F : Fp} {G : Fx} {w0 : World}
theorem numsF : Nums (syF F G) (F.n 2 : Nat) (F.n 3 : Nat) (F.n 4 : Nat) where
 v50 := rfl
 v51 := rfl
 v52 := rfl
 v53 := rfl
 v54 := congrArg (A1.i .i64) (by omega)
 v55 := congrArg (A1.i .i64) (by omega)
 v56 := rfl
 v57 := congrArg (A1.i .i64) (by omega)
 v58 := congrArg (A1.i .i64) (by unfold Fp.sum; omega)
theorem tabF_ok (hF : F.Ok) (hG : G.s3.vl = F.sum) : ∀ e ∈ tabF, @RlOk (syF F G) Tryz.prog e := by
 have h2 := hF.n 2 (by simp)
 have h3 := hF.n 3 (by simp)
 have h4 := hF.n 4 (by simp)
 have hl := hF.ps
 have hs : F.sum ≤ 72 := by unfold Fp.sum; omega
 refine mem_app ?_ (pre3 numsF (by omega) (by omega) (by omega))
 intro e he
 simp only [List.mem_cons, List.mem_nil_iff, or_false] at he
 rcases he with rfl | rfl | rfl
 · exact rl_cmp (a := (F.ps.length : Nat)) rfl rfl (congrArg some (by rw [decide_eq_false_iff_not]; omega))
 · show evConvP Tryz.prog 3 35 (ov (.i .i64 (F.sum : Nat))) = some (ov (.i .u64 (F.sum : Nat)))
   unfold evConvP
   simp only [t3, t35, ov]
   rw [wrap64 (by omega)]
 · refine ⟨fun t => ?_, by intro h; cases h⟩
   show evBin Tryz.prog .eql t (ov (.s (txt G.s3.vl))) (ov (.s (txt F.sum))) = some (ov (.b true))
   rw [hG]
   unfold evBin
   simp [ov]
theorem xlF_ok (hF : F.Ok) : ∀ e ∈ xlF, @XlOk (syF F G) Tryz.prog w0 e := by
 have h2 := hF.n 2 (by simp)
 have h3 := hF.n 3 (by simp)
 have h4 := hF.n 4 (by simp)
 intro e he
 simp only [xlF, List.mem_cons, List.mem_nil_iff, or_false] at he
 subst he
 intro h _ E w vs hvs hr
 obtain ⟨h', hn⟩ := @text_at (syF F G) F.sum (by unfold Fp.sum; omega)
 exact @plain_call (syF F G) w0 w E h h' 16 300 _ _ vs hr hvs rfl rfl hn
theorem KF_ok (hF : F.Ok) (ho : OrdOk w0 F.ps) : @HkOk (syF F (fx F)) Tryz.prog w0 KF := by
 obtain ⟨base, cap, hsl, hat⟩ := ho
 exact KLL_ok (ruLen_ok (m := F.ps.length) rfl rfl hsl) (tabF_ok hF (fx_sum F)) (xlF_ok hF) exF_ok (rowsF_ok hF ⟨base, cap, hsl, hat⟩)
/-- The letters where there is nothing to ask. -/
def fBd (a b c : Int) (m : Nat) (q : Nat) : A1 := match q with
 | 21 => .c 1
 | 22 => .i .i64 (m : Nat)
 | 50 => .i .i64 a
 | 51 => .i .i64 b
 | 52 => .i .i64 c
 | 53 => .i .i64 a
 | 54 => .i .i64 (b * 2)
 | 55 => .i .i64 (c * 3)
 | 56 => .i .i64 a
 | 57 => .i .i64 (a + b * 2)
 | 58 => .i .i64 (a + b * 2 + c * 3)
 | _ => .nilp
abbrev syBd (a b c : Int) (m : Nat) : Sy := mkSy (fBd a b c m) (fun _ => .siter [] 0)
theorem numsB (a b c : Int) (m : Nat) : Nums (syBd a b c m) a b c := ⟨rfl, rfl, rfl, rfl, rfl, rfl, rfl, rfl, rfl⟩
end
theorem rep_none (w : World) (S : Sy) : @Rep S w [.none] h04 w where
 below := Below.refl _ _
 len := rfl
 bound := by decide
 obj := fun k o hk ho => by rw [show h04.get k = none from Tr.get_lf D k] at ho; cases ho
 free := fun k _ _ => Tr.get_lf D k
 sep := fun k k' o o' b c c' hk _ ho _ _ _ => by rw [show h04.get k = none from Tr.get_lf D k] at ho; cases ho
 old := fun k b c hk => by
  cases k with
  | zero => cases hk
  | succ k => simp at hk
theorem isTrue_ok {r : Option (AV × Hp)} (h : isTrue r = true) : ∃ h', r = some (.v (.one (.b true)), h') := by
 unfold isTrue at h
 split at h
 · exact ⟨_, rfl⟩
 · cases h
/-- Told true, all below the memory's end as it was. -/
def Tells (f : FuncId) (vs : Array Value) (W : World) : Prop := Calls Tryz.prog f vs W (fun e W' => e = .returned (.bool true) ∧ Below W.heap.size W W')
theorem tells_of {S : Sy} {K : Hk} {W : World} {n : Nat} {xs : List AV} {h h' : Hp} {E : List Ent} {vs : List Value} {f : Nat} (hk : @HkOk S Tryz.prog W K) (e : callG Tryz.prog K (evG Tryz.prog K n) f xs h = some (.v (.one (.b true)), h')) (hv : All2 (@VV S E) xs vs) (hr : @Rep S W E h W)
  (hrun : ∀ v, (callFunc f vs.toArray).run Tryz.prog W ≠ .ok (.value v) W) : Tells f vs.toArray W := by
 rcases call_of S hk e E W vs hv hr with ⟨h1, h2⟩ | ⟨v, h1, _⟩
 · refine h2.mono ?_
   rintro e w' ⟨v, rfl, E', _, g2, g3⟩
   have g3 : v = .bool true := g3
   subst g3
   exact ⟨rfl, @Rep.below S W E' h' w' g2⟩
 · exact absurd h1 (hrun v)
theorem enters4 (vs : Array Value) (W : World) (v : Value) : (callFunc 4 vs).run Tryz.prog W ≠ .ok (.value v) W := by
 intro h
 simp only [callFunc, Sem.run_bind, run_program, Result.andThen_ok, Tryz.func4] at h
 cases h
/-- What the picks are in the world ahead. -/
abbrev cvOf (base : Option Addr) (m cap : Nat) : CV where
 c i := match i with
  | 0 => .slice base m cap
  | k + 1 => .pointer (base.map fun ad => ad.add k)
 one i := by
  cases i with
  | zero => rfl
  | succ k => rfl
theorem count_tells {W : World} {a b c : Int} {base : Option Addr} {m cap : Nat} {ps : List Int} (hm : ps.length = m) (hps : ∀ i, i < m → ∃ ad, base = some ad ∧ (ad.add i).block < W.heap.size ∧ W.cell? (ad.add i) = some (.int .i64 (ps.getD i 0))) : Tells 4 #[.agg #[.int .i64 a, .int .i64 b, .int .i64 c], .slice base m cap] W := by
 letI : CV := cvOf base m cap
 subst hm
 have ho : OrdOk W ps := ⟨base, cap, rfl, fun i hi => by
  obtain ⟨ad, rfl, h1, h2⟩ := hps i hi
  exact ⟨ad, rfl, rfl, h1, h2⟩⟩
 have bad : ∀ k, k < 7 → (∀ e ∈ tabB k, @RlOk (syBd a b c ps.length) Tryz.prog e) → Tells 4 #[.agg #[.int .i64 a, .int .i64 b, .int .i64 c], .slice base ps.length cap] W := by
  intro k hk ht
  obtain ⟨h', he⟩ := isTrue_ok (List.all_eq_true.1 bad_all k (List.mem_range.2 hk))
  exact tells_of (vs := [.agg #[.int .i64 a, .int .i64 b, .int .i64 c], .slice base ps.length cap]) (S := syBd a b c ps.length) (KLL_ok (ruLen_ok (m := ps.length) rfl rfl rfl) ht (fun e he => by simp at he) exF_ok (fun r hr => by simp at hr)) he
   ⟨⟨[.int .i64 a, .int .i64 b, .int .i64 c], ⟨rfl, rfl, rfl, trivial⟩, rfl⟩, rfl, trivial⟩ (rep_none W _) (enters4 _ _)
 have hN := numsB a b c ps.length
 by_cases h1 : a < 0
 · exact bad 0 (by decide) (bad0_ok (k := 0) hN.v50 h1)
 by_cases h2 : 12 < a
 · exact bad 1 (by decide) (bad1_ok (k := 0) hN.v50 h2)
 by_cases h3 : b < 0
 · exact bad 2 (by decide) (mem_app (bad0_ok (k := 1) hN.v51 h3) (pre0 hN (by omega)))
 by_cases h4 : 12 < b
 · exact bad 3 (by decide) (mem_app (bad1_ok (k := 1) hN.v51 h4) (pre0 hN (by omega)))
 by_cases h5 : c < 0
 · exact bad 4 (by decide) (mem_app (bad0_ok (k := 2) hN.v52 h5) (mem_app (pre0 hN (by omega)) (pre1 hN (by omega) (by omega))))
 by_cases h6 : 12 < c
 · exact bad 5 (by decide) (mem_app (bad1_ok (k := 2) hN.v52 h6) (mem_app (pre0 hN (by omega)) (pre1 hN (by omega) (by omega))))
 by_cases h7 : 60 < ps.length
 · refine bad 6 (by decide) (mem_app (fun e he => ?_) (pre3 hN (by omega) (by omega) (by omega)))
   simp only [List.mem_cons, List.mem_nil_iff, or_false] at he
   subst he
   exact rl_cmp (a := (ps.length : Nat)) rfl rfl (congrArg some (by rw [decide_eq_true_eq]; omega))
 obtain ⟨n, hn2, hn3, hn4⟩ : ∃ n : Nat → Nat, ((n 2 : Nat) : Int) = a ∧ ((n 3 : Nat) : Int) = b ∧ ((n 4 : Nat) : Int) = c := ⟨fun q => if q = 2 then a.toNat else if q = 3 then b.toNat else c.toNat, by simp; omega, by simp; omega, by simp; omega⟩
 have hF : (Fp.mk n ps).Ok := ⟨by rintro q (rfl | rfl | rfl) <;> show n _ ≤ 12 <;> omega, by show ps.length ≤ 60; omega⟩
 obtain ⟨h', he⟩ := isTrue_ok run4
 subst hn2 hn3 hn4
 exact tells_of (vs := [.agg #[.int .i64 (n 2 : Nat), .int .i64 (n 3 : Nat), .int .i64 (n 4 : Nat)], .slice base ps.length cap]) (S := syF ⟨n, ps⟩ (fx ⟨n, ps⟩)) (KF_ok hF ho) he ⟨⟨[.int .i64 (n 2 : Nat), .int .i64 (n 3 : Nat), .int .i64 (n 4 : Nat)], ⟨rfl, rfl, rfl, trivial⟩, rfl⟩, rfl, trivial⟩ (rep_none W _) (enters4 _ _)
end Go.Ev
