/- The loop of all: it goes on till no line waits. -/
import Derived.Test.YtbmdocjeepnhmaaGreatDoorEvYc
set_option linter.unusedVariables false
set_option linter.unusedSimpArgs false
set_option linter.unusedSectionVars false
namespace Go.Ev
open Go Go.RowKit Go.Proofs
def picks4 : List Int := [0, 1, 2, 3]
def round4 (s : Cn) : Cn × Nat := runC s picks4 4
def allC (s : Cn) : Nat → Cn
 | 0 => s
 | i + 1 => (round4 (allC s i)).1
def fAl (s s' : Cn) (n k : Nat) (q : Nat) : A1 := match q with
 | 2 => .sl 758 0 (1 + s.dn) (.un 0)
 | 62 => .i .i64 (k : Nat)
 | 63 => .i .i64 ((k + 1 : Nat) : Int)
 | 70 => .i .u64 ((1 + s'.dn : Nat) : Int)
 | 71 => .s (txt s'.vl)
 | 72 => .sl 765 0 (1 + s'.dn) (.un 0)
 | 75 => bufP (s'.t 2) (s'.r 2) 2
 | 76 => bufP (s'.t 3) (s'.r 3) 3
 | 77 => bufP (s'.t 4) (s'.r 4) 4
 | 90 => .i .i64 (n : Nat)
 | q => fSrv s q
def gAl (s s' : Cn) (q : Nat) : AO := match q with
 | 70 => .row 71 18 (logO (1 + s'.dn))
 | q => gSrv s q
/-- The letters of a pass of all: the server ahead, the server behind, how many. -/
abbrev syAl [CV] (s s' : Cn) (n k : Nat) : Sy := mkSy (fAl s s' n k) (gAl s s')
abbrev famA [CV] (s : Cn) (k : Nat) : Sy := syAl s (round4 s).1 (round4 s).2 k
theorem runC_t (s : Cn) (ps : List Int) : ∀ i, (runC s ps i).1.t = s.t
 | 0 => rfl
 | i + 1 => by
  have := runC_t s ps i
  unfold runC
  split
  · exact this
  · exact this
theorem line0 (s : Cn) : lineOf s 0 = 0 := by
 unfold lineOf
 rw [if_neg (by decide), if_pos (.inl rfl)]
theorem line1 (s : Cn) : lineOf s 1 = if s.r 2 = 0 then 0 else 2 := by
 unfold lineOf
 rw [if_neg (by decide), show ((1 : Int).tmod 4).toNat = 1 from rfl]
 by_cases h : s.r 2 = 0
 · rw [if_pos (.inr h), if_pos h]
 · rw [if_neg (by simp; exact h), if_neg h]
theorem line2 (s : Cn) : lineOf s 2 = if s.r 3 = 0 then 0 else 3 := by
 unfold lineOf
 rw [if_neg (by decide), show ((2 : Int).tmod 4).toNat = 2 from rfl]
 by_cases h : s.r 3 = 0
 · rw [if_pos (.inr h), if_pos h]
 · rw [if_neg (by simp; exact h), if_neg h]
theorem line3 (s : Cn) : lineOf s 3 = if s.r 4 = 0 then 0 else 4 := by
 unfold lineOf
 rw [if_neg (by decide), show ((3 : Int).tmod 4).toNat = 3 from rfl]
 by_cases h : s.r 4 = 0
 · rw [if_pos (.inr h), if_pos h]
 · rw [if_neg (by simp; exact h), if_neg h]
theorem takes (s : Cn) (c q : Nat) : (s.take c).r q = if q = c then s.r c - 1 else s.r q := rfl
/-- A pick that does a line, if there is one. -/
theorem step_r {s : Cn} {ps : List Int} {i c : Nat} (h : ∀ s, lineOf s (ps.getD i 0) = if s.r c = 0 then 0 else c) (hc : c ≠ 0) : (∀ q, (runC s ps (i + 1)).1.r q = if q = c then (runC s ps i).1.r c - 1 else (runC s ps i).1.r q) ∧ (runC s ps (i + 1)).2 = (runC s ps i).2 + (if (runC s ps i).1.r c = 0 then 0 else 1) ∧ ((runC s ps i).1.r c = 0 → runC s ps (i + 1) = runC s ps i) := by
 have h1 := h (runC s ps i).1
 by_cases h0 : (runC s ps i).1.r c = 0
 · rw [if_pos h0] at h1
   rw [runC_no h1]
   refine ⟨fun q => ?_, by rw [if_pos h0]; rfl, fun _ => rfl⟩
   by_cases hq : q = c
   · subst hq
     rw [if_pos rfl, h0]
   · rw [if_neg hq]
 · rw [if_neg h0] at h1
   rw [runC_yes h1 hc]
   refine ⟨fun q => takes _ _ _, by rw [if_neg h0], fun h => absurd h h0⟩
theorem round_r (s : Cn) : (∀ q, q = 2 ∨ q = 3 ∨ q = 4 → (round4 s).1.r q = s.r q - 1) ∧ (round4 s).2 = (if s.r 2 = 0 then 0 else 1) + (if s.r 3 = 0 then 0 else 1) + (if s.r 4 = 0 then 0 else 1) ∧ (s.r 2 = 0 → s.r 3 = 0 → s.r 4 = 0 → round4 s = (s, 0)) := by
 have e1 : runC s picks4 1 = (s, 0) := runC_no (ps := picks4) (i := 0) (line0 _)
 obtain ⟨a1, a2, a3⟩ := step_r (s := s) (ps := picks4) (i := 1) (c := 2) (fun s => line1 s) (by decide)
 obtain ⟨b1, b2, b3⟩ := step_r (s := s) (ps := picks4) (i := 2) (c := 3) (fun s => line2 s) (by decide)
 obtain ⟨c1, c2, c3⟩ := step_r (s := s) (ps := picks4) (i := 3) (c := 4) (fun s => line3 s) (by decide)
 rw [e1] at a1 a2 a3
 simp only [Nat.reduceAdd] at a1 a2 a3 b1 b2 b3 c1 c2 c3
 unfold round4
 refine ⟨?_, ?_, ?_⟩
 · rintro q (rfl | rfl | rfl)
   · rw [c1, if_neg (by decide), b1, if_neg (by decide), a1, if_pos rfl]
   · rw [c1, if_neg (by decide), b1, if_pos rfl, a1, if_neg (by decide)]
   · rw [c1, if_pos rfl, b1, if_neg (by decide), a1, if_neg (by decide)]
 · have e3 : (runC s picks4 2).1.r 3 = s.r 3 := by rw [a1, if_neg (by decide)]
   have e4 : (runC s picks4 3).1.r 4 = s.r 4 := by rw [b1, if_neg (by decide), a1, if_neg (by decide)]
   rw [c2, b2, a2, e3, e4, Nat.zero_add]
 · intro h2 h3 h4
   have d2 := a3 h2
   have d3 := b3 (by rw [d2]; exact h3)
   have d4 := c3 (by rw [d3, d2]; exact h4)
   rw [d4, d3, d2]
theorem allC_ok {s : Cn} (h : s.Ok) : ∀ i, (allC s i).Ok
 | 0 => h
 | i + 1 => runC_ok (allC_ok h i) picks4 4
theorem allC_t (s : Cn) : ∀ i, (allC s i).t = s.t
 | 0 => rfl
 | i + 1 => (runC_t _ picks4 4).trans (allC_t s i)
theorem allC_r (s : Cn) {q : Nat} (hq : q = 2 ∨ q = 3 ∨ q = 4) : ∀ i, (allC s i).r q = s.r q - i
 | 0 => rfl
 | i + 1 => by
  have h1 := (round_r (allC s i)).1 q hq
  have h2 := allC_r s hq i
  show (round4 (allC s i)).1.r q = _
  rw [h1, h2]
  omega
/-- How many rounds do something. -/
def Cn.m (s : Cn) : Nat := max (s.r 2) (max (s.r 3) (s.r 4))
theorem count_pos {s : Cn} {i : Nat} (h : i < s.m) : (round4 (allC s i)).2 ≠ 0 := by
 rw [(round_r (allC s i)).2.1, allC_r s (by simp), allC_r s (by simp), allC_r s (by simp)]
 unfold Cn.m at h
 by_cases h2 : s.r 2 - i = 0 <;> by_cases h3 : s.r 3 - i = 0 <;> by_cases h4 : s.r 4 - i = 0 <;> simp only [h2, h3, h4, if_true, if_false] <;> omega
theorem count_end (s : Cn) : round4 (allC s s.m) = (allC s s.m, 0) := by
 refine (round_r (allC s s.m)).2.2 ?_ ?_ ?_ <;> (rw [allC_r s (by simp)]; unfold Cn.m; omega)
section
variable [CV] {s s' : Cn} {n k : Nat} {w0 : World}
theorem let2_in {c : Nat} : LetV (syAl s s' n k) (syR s picks4 (pkA picks4) 0 0 c) rowRun2.fl 770 rowRun2.g := by
 refine ⟨fun _ => rfl, ?_⟩
 intro p hp
 simp only [rowRun2, List.mem_cons, List.mem_nil_iff, or_false] at hp
 rcases hp with rfl | rfl | rfl | rfl | rfl | rfl | rfl | rfl | rfl | rfl
 · exact sim_plain rfl
 · exact sim_plain rfl
 · exact sim_sl rfl rfl
 · exact sim_sl rfl rfl
 · rfl
 · exact sim_plain rfl
 · exact sim_plain rfl
 · exact sim_buf rfl rfl
 · exact sim_buf rfl rfl
 · exact sim_buf rfl rfl
theorem obj2_in {c : Nat} : LetH (syAl s s' n k) (syR s picks4 (pkA picks4) 0 0 c) rowRun2.fl 770 rowRun2.ol := by
 intro p hp
 simp only [rowRun2, List.mem_cons, List.mem_nil_iff, or_false] at hp
 rcases hp with rfl | rfl | rfl | rfl | rfl
 · exact sim_log (logO_len _)
 · exact sim_bufO
 · exact sim_bufO
 · exact sim_bufO
 · rfl
theorem let2_out {ps : List Int} {pk : Pk} {i c : Nat} : LetV (syR s' ps pk i n c) (syAl s s' n k) rowRun2.flOut 766 gOutR := by
 refine ⟨fun _ => rfl, ?_⟩
 intro p hp
 simp only [gOutR, List.mem_cons, List.mem_nil_iff, or_false] at hp
 rcases hp with rfl | rfl | rfl | rfl | rfl | rfl | rfl
 · exact sim_plain rfl
 · exact sim_plain rfl
 · exact sim_sl rfl rfl
 · exact sim_buf rfl rfl
 · exact sim_buf rfl rfl
 · exact sim_buf rfl rfl
 · exact sim_plain rfl
theorem obj2_out {ps : List Int} {pk : Pk} {i c : Nat} (ht : s'.t = s.t) : LetH (syR s' ps pk i n c) (syAl s s' n k) rowRun2.flOut 766 oOutR := by
 obtain ⟨t', r'⟩ := s'
 obtain ⟨t, r⟩ := s
 simp only at ht
 subst ht
 intro p hp
 simp only [oOutR, List.mem_cons, List.mem_nil_iff, or_false] at hp
 rcases hp with rfl | rfl | rfl | rfl
 · exact sim_log (logO_len _)
 · exact sim_bufO
 · exact sim_bufO
 · exact sim_bufO
theorem row2_ok (hs : s.Ok) : LoROk (famA s k) w0 rowRun2 := by
 have e1 : famR s picks4 (pkA picks4) 0 = syR s picks4 (pkA picks4) 0 0 (lineOf s 0) := rfl
 have e2 : famR s picks4 (pkA picks4) picks4.length = syR (round4 s).1 picks4 (pkA picks4) 4 (round4 s).2 (lineOf (round4 s).1 (picks4.getD 4 0)) := rfl
 refine run_row (s := s) (ps := picks4) (pk := pkA picks4) (gOut := gOutR) (oOut := oOutR) (pkA_ok _) (pkA_ru _ _) hs (by decide) rfl rfl rfl rfl rfl ?_ ?_ out_run2 free_RX2 (by kernel_rfl) ?_ ?_
 · rw [e1]
   exact let2_in
 · rw [e1]
   exact obj2_in
 · show LetV (famR s picks4 (pkA picks4) picks4.length) (famA s k) rowRun2.flOut sRX2.h.n gOutR
   rw [n_RX2, e2]
   exact let2_out
 · show LetH (famR s picks4 (pkA picks4) picks4.length) (famA s k) rowRun2.flOut sRX2.h.n oOutR
   rw [n_RX2, e2]
   exact obj2_out (runC_t s picks4 4)
theorem tabA_ok {z : Bool} (hk : k < 100) (hz : decide (n = 0) = z) : ∀ e ∈ tabA z, @RlOk (syAl s s' n k) Tryz.prog e := by
 intro e he
 unfold tabA at he
 simp only [List.mem_cons, List.mem_nil_iff, or_false] at he
 rcases he with rfl | rfl | rfl
 · exact ⟨fun t => bin_ii (by decide) (congrArg some (by
    show decide ((k : Int) < 3000) = true
    rw [decide_eq_true_eq]
    omega)), by intro h; cases h⟩
 · exact ⟨fun t => bin_ii (by decide) (congrArg some (by
    show ((n : Int) == 0) = z
    rw [← hz]
    by_cases h : n = 0 <;> simp [h])), by intro h; cases h⟩
 · exact ⟨fun t => bin_add ((wrapI64 (by omega)).trans (by omega)), by intro h; cases h⟩
theorem KA_ok {z : Bool} (hs : s.Ok) (hk : k < 100) (hz : decide ((round4 s).2 = 0) = z) : @HkOk (famA s k) Tryz.prog w0 (KL (tabA z) [] (exI exB) [rowRun2]) :=
 KL_ok (tabA_ok hk hz) (fun e he => by simp at he) (exI_ok (@exB_ok (famA s k) w0)) (fun r hr => by
  rw [List.mem_singleton] at hr
  subst hr
  exact row2_ok hs)
theorem letA_next {s2 : Cn} {n2 j : Nat} {g : List (Nat × A1)} (hg : (j = k + 1 ∧ g = gAw 63) ∨ (j = k ∧ g = gAw 62)) : LetV (syAl s s' n k) (syAl s' s2 n2 j) fA 762 g := by
 rcases hg with ⟨rfl, rfl⟩ | ⟨rfl, rfl⟩
 all_goals
  refine ⟨fun _ => rfl, ?_⟩
  intro p hp
  simp only [gAw, List.mem_cons, List.mem_nil_iff, or_false] at hp
  rcases hp with rfl | rfl | rfl | rfl | rfl | rfl | rfl
  · exact sim_plain rfl
  · exact sim_plain rfl
  · exact sim_sl rfl rfl
  · exact sim_buf rfl rfl
  · exact sim_buf rfl rfl
  · exact sim_buf rfl rfl
  · exact sim_plain rfl
theorem objA_next {s2 : Cn} {n2 j : Nat} (ht : s'.t = s.t) : LetH (syAl s s' n k) (syAl s' s2 n2 j) fA 762 oA := by
 obtain ⟨t', r'⟩ := s'
 obtain ⟨t, r⟩ := s
 simp only at ht
 subst ht
 intro p hp
 simp only [oA, List.mem_cons, List.mem_nil_iff, or_false] at hp
 rcases hp with rfl | rfl | rfl | rfl
 · exact sim_log (logO_len _)
 · exact sim_bufO
 · exact sim_bufO
 · exact sim_bufO
end
/-- all, from a server by its letters. -/
theorem all_row [CV] {S : Sy} {w0 : World} {s : Cn} (hs : s.Ok) (hv0 : LetV S (famA s 0) rowAll.fl 762 rowAll.g) (ho0 : LetH S (famA s 0) rowAll.fl 762 rowAll.ol)
  (hvX : LetV (famA (allC s s.m) s.m) S rowAll.flOut 762 gOutA) (hoX : LetH (famA (allC s s.m) s.m) S rowAll.flOut 762 oOutA) : LoROk S w0 rowAll := by
 have hm : s.m ≤ 12 := by
  have h2 := hs 2 (by simp)
  have h3 := hs 3 (by simp)
  have h4 := hs 4 (by simp)
  unfold Cn.m
  omega
 have hfree : freeH sA.h := freeB_ok free_A
 have hb2 : sA.h.n ≤ 2 ^ D := by rw [n_A]; decide
 intro s' hit c hat E a w ha hr
 unfold LoR.hit at hit
 simp only [Bool.and_eq_true] at hit
 obtain ⟨⟨g1, g2⟩, g3⟩ := hit
 refine lo_row (sf := fun _ => sA) (fam := fun i => famA (allC s i) i) (m := s.m) (id := 0) (xL := .ret) (xX := .ret) (sL := sA) hat id_all g2 hfree hb2 (by rw [n_A]; exact hv0) (by rw [n_A]; exact ho0) ?_ ?_ (by intro h; cases h) rfl out_all (freeB_ok free_AX) (by rw [n_AX]; decide) (by rw [n_AX]; exact hvX) (by rw [n_AX]; exact hoX) g1 g3 ha hr
 · intro i hi b hb E a w ha hr
   have hlen : 762 ≤ E.length := by rw [@Rep.len (famA (allC s i) i) w0 E sA.h w hr, n_A]; exact Nat.le_refl _
   have hk : @HkOk (famA (allC s i) i) Tryz.prog w0 (KL (tabA false) [] (exI exB) [rowRun2]) := KA_ok (allC_ok hs i) (by omega) (by rw [decide_eq_false_iff_not]; exact count_pos hi)
   refine wp_mono (pass_ok (S2 := famA (allC s (i + 1)) (i + 1)) hk apass_more hb hfree hb2 (by rw [n_A]; exact letA_next (.inl ⟨rfl, rfl⟩)) (by rw [n_A]; exact objA_next (runC_t _ picks4 4)) ha hr) ?_
   rintro e a' w' ⟨h1, E1, E', h2, h3, h4, h5⟩
   rw [n_A] at h3
   refine ⟨h1, E', ?_, h4, h5⟩
   rw [n_A]
   exact keeps_pass h2 h3 hlen (Nat.le_refl _) keeps_A
 · intro b hb E a w ha hr
   have hlen : 762 ≤ E.length := by rw [@Rep.len (famA (allC s s.m) s.m) w0 E sA.h w hr, n_A]; exact Nat.le_refl _
   have he := count_end s
   have hv : LetV (famA (allC s s.m) s.m) (famA (allC s s.m) s.m) fA 762 (gAw 62) := by
    have h1 : LetV (famA (allC s s.m) s.m) (syAl (round4 (allC s s.m)).1 (round4 (allC s s.m)).1 (round4 (allC s s.m)).2 s.m) fA 762 (gAw 62) := letA_next (.inr ⟨rfl, rfl⟩)
    have h2 : syAl (round4 (allC s s.m)).1 (round4 (allC s s.m)).1 (round4 (allC s s.m)).2 s.m = famA (allC s s.m) s.m := by
     unfold famA
     rw [he]
    rwa [h2] at h1
   have ho : LetH (famA (allC s s.m) s.m) (famA (allC s s.m) s.m) fA 762 oA := by
    have h1 : LetH (famA (allC s s.m) s.m) (syAl (round4 (allC s s.m)).1 (round4 (allC s s.m)).1 (round4 (allC s s.m)).2 s.m) fA 762 oA := objA_next (runC_t _ picks4 4)
    have h2 : syAl (round4 (allC s s.m)).1 (round4 (allC s s.m)).1 (round4 (allC s s.m)).2 s.m = famA (allC s s.m) s.m := by
     unfold famA
     rw [he]
    rwa [h2] at h1
   have hk : @HkOk (famA (allC s s.m) s.m) Tryz.prog w0 (KL (tabA true) [] (exI exB) [rowRun2]) := KA_ok (allC_ok hs s.m) (by omega) (by rw [decide_eq_true_eq, he])
   refine wp_mono (pass_ok (S2 := famA (allC s s.m) s.m) hk apass_end hb hfree hb2 (by rw [n_A]; exact hv) (by rw [n_A]; exact ho) ha hr) ?_
   rintro e a' w' ⟨h1, E1, E', h2, h3, h4, h5⟩
   rw [n_A] at h3
   refine ⟨h1, E', ?_, h4, h5⟩
   rw [n_A]
   exact keeps_pass h2 h3 hlen (Nat.le_refl _) keeps_A
end Go.Ev
