/- TopCas of what it does not take: runs. -/
import Derived.Test.YtbmdocjeepnhmaaGreatDoorEwTw
import Derived.Test.YtbmdocjeepnhmaaGreatDoorEwTk
import Derived.Test.YtbmdocjeepnhmaaGreatDoorEwA0
import Derived.Test.YtbmdocjeepnhmaaGreatDoorEwA1
import Derived.Test.YtbmdocjeepnhmaaGreatDoorEwA2
import Derived.Test.YtbmdocjeepnhmaaGreatDoorEwA3
import Derived.Test.YtbmdocjeepnhmaaGreatDoorEwA4
import Derived.Test.YtbmdocjeepnhmaaGreatDoorEwB0
import Derived.Test.YtbmdocjeepnhmaaGreatDoorEwC0
import Derived.Test.YtbmdocjeepnhmaaGreatDoorEwB1
import Derived.Test.YtbmdocjeepnhmaaGreatDoorEwC1
import Derived.Test.YtbmdocjeepnhmaaGreatDoorEwB2
import Derived.Test.YtbmdocjeepnhmaaGreatDoorEwB3
set_option linter.unusedVariables false
set_option linter.unusedSimpArgs false
set_option linter.unusedSectionVars false
namespace Go.Ev
open Go Go.RowKit Go.Proofs
set_option maxRecDepth 1000000
theorem bad_0 : isTrue (callG Tryz.prog (KB6 (tabB 0)) (evG Tryz.prog (KB6 (tabB 0)) 3000) 6 args6 h06) = true := by kernel_rfl
theorem bad_1 : isTrue (callG Tryz.prog (KB6 (tabB 1)) (evG Tryz.prog (KB6 (tabB 1)) 3000) 6 args6 h06) = true := by kernel_rfl
theorem bad_2 : isTrue (callG Tryz.prog (KB6 (tabB 2)) (evG Tryz.prog (KB6 (tabB 2)) 3000) 6 args6 h06) = true := by kernel_rfl
end Go.Ev
namespace Go.Ev
open Go Go.RowKit Go.Proofs
set_option maxRecDepth 100000
/-- The run by the state behind Run. -/
def Whole (ka : Nat) (z : St) : Prop := ∃ ex, (∀ (S : Sy) (D : Da) (w0 : Base), Tx D S → Cls (D.n 0) ka → @CallOk S Tryz.prog w0 ex) ∧ isTrue (callG Tryz.prog (KFe [] ex z) (evG Tryz.prog (KFe [] ex z) 3000) 6 args6 h06) = true
theorem whole_of {ka : Nat} {z : St} (h : isTrue (callG Tryz.prog (KF [] z) (evG Tryz.prog (KF [] z) 3000) 6 args6 h06) = true) : Whole ka z := ⟨exF, fun S D w0 _ _ => exF_ok, h⟩
theorem first_0 {S : Sy} {D : Da} {w0 : Base} (hT : Tx D S) (hk : Cls (D.n 0) 0) : @CallOk S Tryz.prog w0 exd0 := memoF_ok (K := KT (tabC 0 ++ tabK 0 0) (t2C 0) (xlC 0)) (fun z => KT_ok hT (by decide) (mem_app (tabC_ok hT (by decide)) (tabK_ok hT (by decide) hk))) run_d0 fr_d0 fh_d0 (@exF_ok S w0)
theorem first_1 {S : Sy} {D : Da} {w0 : Base} (hT : Tx D S) (hk : Cls (D.n 0) 1) : @CallOk S Tryz.prog w0 exd1 := memoF_ok (K := KT (tabC 0 ++ tabK 0 1) (t2C 0) (xlC 0)) (fun z => KT_ok hT (by decide) (mem_app (tabC_ok hT (by decide)) (tabK_ok hT (by decide) hk))) run_d1 fr_d1 fh_d1 (@exF_ok S w0)
theorem first_2 {S : Sy} {D : Da} {w0 : Base} (hT : Tx D S) (hk : Cls (D.n 0) 2) : @CallOk S Tryz.prog w0 exd2 := memoF_ok (K := KT (tabC 0 ++ tabK 0 2) (t2C 0) (xlC 0)) (fun z => KT_ok hT (by decide) (mem_app (tabC_ok hT (by decide)) (tabK_ok hT (by decide) hk))) run_d2 fr_d2 fh_d2 (@exF_ok S w0)
theorem first_3 {S : Sy} {D : Da} {w0 : Base} (hT : Tx D S) (hk : Cls (D.n 0) 3) : @CallOk S Tryz.prog w0 exd3 := memoF_ok (K := KT (tabC 0 ++ tabK 0 3) (t2C 0) (xlC 0)) (fun z => KT_ok hT (by decide) (mem_app (tabC_ok hT (by decide)) (tabK_ok hT (by decide) hk))) run_d3 fr_d3 fh_d3 (@exF_ok S w0)
theorem first_4 {S : Sy} {D : Da} {w0 : Base} (hT : Tx D S) (hk : Cls (D.n 0) 4) : @CallOk S Tryz.prog w0 exd4 := memoF_ok (K := KT (tabC 0 ++ tabK 0 4) (t2C 0) (xlC 0)) (fun z => KT_ok hT (by decide) (mem_app (tabC_ok hT (by decide)) (tabK_ok hT (by decide) hk))) run_d4 fr_d4 fh_d4 (@exF_ok S w0)
theorem whole_q : ∀ q ka kb, q < 5 → ka < 5 → kb < 5 → Whole ka (zq ka kb q)
 | 0, 0, _, _, _, _ => ⟨_, fun _ _ _ hT hk => first_0 hT hk, all_S11x0⟩
 | 0, 1, _, _, _, _ => ⟨_, fun _ _ _ hT hk => first_1 hT hk, all_S11x1⟩
 | 0, 2, _, _, _, _ => ⟨_, fun _ _ _ hT hk => first_2 hT hk, all_S11x2⟩
 | 0, 3, _, _, _, _ => ⟨_, fun _ _ _ hT hk => first_3 hT hk, all_S11x3⟩
 | 0, 4, _, _, _, _ => ⟨_, fun _ _ _ hT hk => first_4 hT hk, all_S11x4⟩
 | 0, k + 5, _, _, h, _ => absurd h (by omega)
 | 1, 0, _, _, _, _ => whole_of all_S0x0
 | 1, 1, _, _, _, _ => whole_of all_S0x1
 | 1, 2, _, _, _, _ => whole_of all_S0x2
 | 1, 3, _, _, _, _ => whole_of all_S0x3
 | 1, 4, _, _, _, _ => whole_of all_S0x4
 | 1, k + 5, _, _, h, _ => absurd h (by omega)
 | 2, _, 0, _, _, _ => whole_of all_S1x0
 | 2, _, 1, _, _, _ => whole_of all_S1x1
 | 2, _, 2, _, _, _ => whole_of all_S1x2
 | 2, _, 3, _, _, _ => whole_of all_S1x3
 | 2, _, 4, _, _, _ => whole_of all_S1x4
 | 2, _, k + 5, _, _, h => absurd h (by omega)
 | 3, 0, _, _, _, _ => whole_of all_T0x0
 | 3, 1, _, _, _, _ => whole_of all_T0x1
 | 3, 2, _, _, _, _ => whole_of all_T0x2
 | 3, 3, _, _, _, _ => whole_of all_T0x3
 | 3, 4, _, _, _, _ => whole_of all_T0x4
 | 3, k + 5, _, _, h, _ => absurd h (by omega)
 | 4, _, 0, _, _, _ => whole_of all_T1x0
 | 4, _, 1, _, _, _ => whole_of all_T1x1
 | 4, _, 2, _, _, _ => whole_of all_T1x2
 | 4, _, 3, _, _, _ => whole_of all_T1x3
 | 4, _, 4, _, _, _ => whole_of all_T1x4
 | 4, _, k + 5, _, _, h => absurd h (by omega)
 | q + 5, _, _, h, _, _ => absurd h (by omega)
theorem cas_tells {W : World} {a b : List Nat} (ha : ∀ c ∈ a, c < 256) (hb : ∀ c ∈ b, c < 256) {base : Option Addr} {m cap : Nat} {ps : List Int} (hm : ps.length = m) (hps : ∀ i, i < m → ∃ ad, base = some ad ∧ (ad.add i).block < W.heap.size ∧ W.cell? (ad.add i) = some (.int .i64 (ps.getD i 0))) : Tells 6 #[.string (bytes a), .string (bytes b), .slice base m cap] W := by
 letI : CV := cvOf base m cap
 subst hm
 have ho : OrdOk (Base.all W) ps := ⟨base, cap, rfl, fun i hi => by
  obtain ⟨ad, rfl, h1, h2⟩ := hps i hi
  exact ⟨ad, rfl, rfl, h1, h2⟩⟩
 have bad : ∀ k, isTrue (callG Tryz.prog (KB6 (tabB k)) (evG Tryz.prog (KB6 (tabB k)) 3000) 6 args6 h06) = true → (∀ e ∈ tabB k, @RlOk (syBd a b ps.length) Tryz.prog e) → Tells 6 #[.string (bytes a), .string (bytes b), .slice base ps.length cap] W := by
  intro k hk ht
  obtain ⟨h', he⟩ := isTrue_ok hk
  exact tells_of (vs := [.string (bytes a), .string (bytes b), .slice base ps.length cap]) (S := syBd a b ps.length) (KLL_ok (ruLen_ok (m := ps.length) rfl rfl rfl) ht (fun e he => by simp at he) (fun e he => by simp at he) (fun r hr => by simp at hr)) he
   ⟨⟨rfl, ha⟩, ⟨rfl, hb⟩, rfl, trivial⟩ (rep_none W _) (enters6 _ _)
 by_cases h1 : 500 < a.length
 · exact bad 0 bad_0 (big_ok (d := 0) rfl rfl (decide_eq_true h1))
 by_cases h2 : 500 < b.length
 · exact bad 1 bad_1 (mem_app (big_ok (d := 0) rfl rfl (decide_eq_false h1)) (big_ok (d := 1) rfl rfl (decide_eq_true h2)))
 by_cases h3 : 10 < ps.length
 · exact bad 2 bad_2 (mem_app (mem_app (big_ok (d := 0) rfl rfl (decide_eq_false h1)) (big_ok (d := 1) rfl rfl (decide_eq_false h2))) (few_ok rfl (decide_eq_true h3)))
 let D : Da := ⟨fun d => match d with | 0 => a | _ => b, fun d => match d with | 0 => ha | _ + 1 => hb, fun d => match d with | 0 => (by omega : a.length ≤ 500) | _ + 1 => (by omega : b.length ≤ 500)⟩
 obtain ⟨ka, hka⟩ := cls_of (D.nle 0)
 obtain ⟨kb, hkb⟩ := cls_of (D.nle 1)
 have hl : ps.length ≤ 10 := by omega
 have hT : Tx D (syT D ps 0 (runQ ps ps.length).2) := txT
 obtain ⟨ex, hex, hw⟩ := whole_q (runQ ps ps.length).1 ka kb (runQ_ok ps ps.length).1 hka.1 hkb.1
 obtain ⟨h', he⟩ := isTrue_ok hw
 exact tells_of (vs := [.string (bytes a), .string (bytes b), .slice base ps.length cap]) (S := syT D ps 0 (runQ ps ps.length).2) (KFe_ok (ruLen_ok (m := ps.length) rfl rfl rfl) (mem_app (tabL_ok hT rfl hl) (fun e he => by simp at he)) (t2F_ok hT) (xlF_ok hT) (hex _ D _ hT hka) (fun r hr => by
   rw [List.mem_singleton] at hr
   subst hr
   exact row_ok ho hl hka hkb)) he
  ⟨⟨rfl, ha⟩, ⟨rfl, hb⟩, rfl, trivial⟩ (rep_none W _) (enters6 _ _)
end Go.Ev
