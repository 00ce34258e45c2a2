/- TopCas: for every input the law returns true: the row. No condition. -/
import Derived.Test.YtbmdocjeepnhmaaGreatDoorEwTg
import Derived.Test.YtbmdocjeepnhmaaGreatDoorEwCc
import Derived.Test.YtbmdocjeepnhmaaGreatDoorCards
import Derived.Test.YtbmdocjeepnhmaaGreatDoorTie
import Derived.Laws.IdiomArrays
import Derived.WalkKit
import Derived.ProofKit
import Derived.OpenShut
import Derived.ShutString
import Derived.LaidMore
import Derived.Lay
import Derived.SevenTiedAt
import Derived.Stop.Joined
set_option linter.unusedVariables false
set_option linter.unusedSimpArgs false
set_option linter.unusedSectionVars false
namespace Go.Proofs.YtbmdocjeepnhmaaGreatDoor.topCas
open Go.ChangeShapes Go.WideShapes Go.ChangeAt Go.RowKit Go.Ev
open Go.ChangeMaps (open_string shut_string)
theorem own : ownKnob Tryz.prog.godebug = none := by kernel_rfl
theorem laidOut : laidOutB Tryz.prog = true := by kernel_rfl
def IsRow (k : IntKind) (w : World) (a : Option Addr) (len cap : Nat) (zs : List Int) : Prop :=
  (a = none ∧ len = 0 ∧ cap = 0 ∧ zs = []) ∨
  ∃ x, a = some x ∧ len ≤ cap ∧ cap ≤ maxLen ∧ zs.length = cap ∧ (∀ i, i < zs.length → w.cell? (x.add i) = some (.int k (zs.getD i 0))) ∧ ∀ n ∈ zs, (Lit.int k n).wf = true
theorem cell_lt {w : World} {p : Addr} {v : Value} (h : w.cell? p = some v) : p.block < w.heap.size := by
  rcases Nat.lt_or_ge p.block w.heap.size with h1 | h1
  · exact h1
  · simp [World.cell?, Array.getElem?_eq_none h1] at h
theorem row_cells {w : World} {a : Option Addr} {len cap : Nat} {zs : List Int} (h : IsRow .i64 w a len cap zs) : ∃ ps : List Int, ps.length = len ∧ ∀ i, i < len → ∃ ad, a = some ad ∧ (ad.add i).block < w.heap.size ∧ w.cell? (ad.add i) = some (.int .i64 (ps.getD i 0)) := by
  rcases h with ⟨rfl, rfl, rfl, rfl⟩ | ⟨x, rfl, h1, h2, h3, h4, h5⟩
  · exact ⟨[], rfl, fun i hi => absurd hi (Nat.not_lt_zero i)⟩
  · refine ⟨zs.take len, by rw [List.length_take]; omega, fun i hi => ⟨x, rfl, ?_⟩⟩
    have h6 := h4 i (by omega)
    refine ⟨cell_lt h6, ?_⟩
    rw [h6, List.getD_eq_getElem?_getD, List.getD_eq_getElem?_getD, List.getElem?_take, if_pos hi]
/-- A text, by its bytes' numbers. -/
def numsOf (s : ByteArray) : List Nat := s.data.toList.map UInt8.toNat
theorem bytes_nums (s : ByteArray) : Go.Ev.bytes (numsOf s) = s := by
  apply ByteArray.ext
  show ((s.data.toList.map UInt8.toNat).map UInt8.ofNat).toArray = s.data
  rw [List.map_map]
  have : (UInt8.ofNat ∘ UInt8.toNat) = id := by
    funext x
    simp
  rw [this, List.map_id]
theorem nums_lt (s : ByteArray) : ∀ c ∈ numsOf s, c < 256 := by
  intro c hc
  obtain ⟨x, _, rfl⟩ := List.mem_map.1 hc
  exact x.toNat_lt
theorem cas_told {W : World} (s t : ByteArray) {base : Option Addr} {m cap : Nat} {ps : List Int} (hm : ps.length = m) (hps : ∀ i, i < m → ∃ ad, base = some ad ∧ (ad.add i).block < W.heap.size ∧ W.cell? (ad.add i) = some (.int .i64 (ps.getD i 0))) : Calls Tryz.prog 6 #[.string s, .string t, .slice base m cap] W fun e W' => e = .returned (.bool true) ∧ Below W.heap.size W W' := by
  have h := cas_tells (W := W) (cap := cap) (nums_lt s) (nums_lt t) hm hps
  rw [bytes_nums, bytes_nums] at h
  refine Calls.mono h fun e W' ⟨h1, h2⟩ => ⟨h1, ?_⟩
  exact ⟨h2.os, h2.tape, h2.output, h2.size, fun k hk => h2.block k hk⟩
set_option maxHeartbeats 1000000 in
set_option maxRecDepth 100000 in
theorem lifted (os : Os) (started : os.Started) (H : Type) (enc : TypeId × Value → H) :
    ReturnsInHanded {} Tryz.checked os 6 .any (fun w args => (Rows.topCasSpec.pre enc Tryz.prog Tryz.f6 Rows.topCasRow.domain false w args ∧ laidMetH Tryz.prog Rows.topCasRow.laid w) ∧ sizedMet enc Tryz.prog Tryz.f6 (OpenSpec.ofChange Rows.topCasSpec) false w args)
      (Rows.topCasSpec.post enc Tryz.prog Tryz.f6 false true false false) := by
  refine returnsInHanded_of_change_and (C := Tryz.checked) (X := fun w _ => laidMetH Tryz.prog Rows.topCasRow.laid w) (fun _ _ _ hh h => h.of_heap hh) own started (by kernel_rfl) Tryz.func6
    (ChangeSpec.witness_shaped (enc := enc) (C := Tryz.checked) (os := os) (X := fun w _ => laidMetH Tryz.prog Rows.topCasRow.laid w) false (World.laidAll Tryz.prog os Rows.topCasRow.laid) #[.string ByteArray.empty, .string ByteArray.empty, .slice none 0 0] 8 (World.laidAll_os _ _ _)
      (World.shaped_of_ZipB (by kernel_rfl) (by kernel_rfl)) (by kernel_rfl) (by kernel_rfl) (by kernel_rfl)
      (by rw [MakeChecks.laidMetH_plain _ _ _ (by kernel_rfl)]; exact laidMet_laidAll _ (by kernel_rfl) (by kernel_rfl))) ?_
  intro W base args ds gs before hval0 hW hc _ hL _
  have hval : ∀ (j : Nat) t v, Tryz.f6.params[j]? = some t → args[j]? = some v → Value.okWide Tryz.prog W .any base t v := hval0
  have hW' := hW
  obtain ⟨p, q, hA0, hV, rfl, _, _⟩ := hW
  have hA : DataW.TrodAll enc Tryz.prog W 0 (fun _ => true) true Tryz.f6.params.toList args.toList ds p := hA0
  rw [Tryz.params6] at hA hval
  obtain ⟨v0, vs0, d0, ds0, p0, q0, hargs, rfl, rfl, h0, r0⟩ := trodAll_cons hA
  obtain ⟨v1, vs1, d1, ds1, p1, q1, rfl, rfl, rfl, h1, r1⟩ := trodAll_cons r0
  obtain ⟨v2, vs2, d2, ds2, p2, q2, rfl, rfl, rfl, h2, r2⟩ := trodAll_cons r1
  obtain ⟨rfl, rfl, rfl⟩ := trodAll_nil r2
  obtain rfl : args = #[v0, v1, v2] := by cases args; simp_all
  obtain ⟨rfl, rfl⟩ := trodVars_none hV
  obtain ⟨a2, len2, cap2, rfl⟩ := okWide_slice t40 (hval 2 40 v2 rfl rfl)
  have k2 := h2
  have lt2 : ∀ x ∈ p2, x.block < W.heap.size := by obtain ⟨m, hm⟩ := k2; exact DataW.trod_lt m _ _ _ hm
  obtain ⟨z2, w2⟩ : ∃ zs, IsRow .i64 W a2 len2 cap2 zs := by
    obtain ⟨fuel, hf⟩ := h2
    rcases open_ints t40 t3 (by kernel_rfl) hf with ⟨hcs, _⟩ | ⟨x, l, c, zs, hcs, _, hl, hm, hz, _, hcell, hwz⟩
    · simp [Value.cells] at hcs
      obtain ⟨rfl, rfl, rfl⟩ := hcs
      exact ⟨[], .inl ⟨rfl, rfl, rfl, rfl⟩⟩
    · simp [Value.cells] at hcs
      obtain ⟨rfl, rfl, rfl⟩ := hcs
      exact ⟨zs, .inr ⟨_, rfl, hl, hm, by simpa using hz, hcell, hwz⟩⟩
  obtain ⟨s0, rfl, rfl, rfl, y0⟩ := open_string t9 (hval 0 9 v0 rfl rfl) h0
  obtain ⟨s1, rfl, rfl, rfl, y1⟩ := open_string t9 (hval 1 9 v1 rfl rfl) h1
  clear hA0 hval0
  obtain ⟨ps, hl, hps⟩ := row_cells w2
  refine (cas_told s0 s1 hl hps).mono fun e W' ⟨he, bel⟩ => ?_
  subst he
  exact ⟨_, rfl, _, _, _, [], _, [], hW', trodAll_mk1 (shut_bool Tryz.underlying4 _), (trodAll_cons_mk (shut_string t9 y0) (trodAll_cons_mk (shut_string t9 y1) (trodAll_cons_mk (Below.trod laidOut (by kernel_rfl) (of_decide_eq_true (by kernel_rfl)) k2 bel lt2) trodAll_mk0))), rfl, bel.frame _, fun h => by cases h⟩
theorem over : Rows.TopCasSaid :=
  OpenClaim.holds_of_wide 6 Tryz.f6 rfl rfl rfl rfl rfl rfl rfl ⟨rfl, rfl, rfl, rfl, rfl⟩ rfl rfl rfl rfl rfl (by kernel_rfl) Tryz.func6 closed.all
    (of_decide_eq_true (by kernel_rfl)) (by unfold Func.isWrapper; first | (rw [if_pos (by decide +kernel)]; kernel_rfl) | (rw [if_neg (by decide +kernel)]; exact ⟨rfl, rfl⟩))
    (fun os started H enc _ => lifted os started H enc)
end Go.Proofs.YtbmdocjeepnhmaaGreatDoor.topCas
namespace Go.Proofs.YtbmdocjeepnhmaaGreatDoor.topCas
open Go.ChangeShapes Go.WideShapes Go.ChangeAt Go.RowKit Go.Ev
theorem card : Rows.TopCasCardSaid :=
  Claim7.holds_tied_plain_at .later [] [.data, .data, .data, .data, .sentinel, .sentinel, .pinned] true (true, "d359250e031eb3528f4e9434ca534c99e802d2f2a4ac9c21a1e2b11e7e65ebe4") true over (fun _ h => by cases h) (by kernel_rfl) (fun _ h => by cases h) topCas_row_tie rfl ⟨rfl, rfl⟩ (by kernel_rfl) rfl
    (fun f fn hf hfn => by
      obtain rfl : f = 6 := Option.some.inj ((show Tryz.prog.funcNamed "cellaret/cellarettop.TopCas" = some 6 by kernel_rfl).symm.trans hf) |>.symm
      obtain rfl : fn = Tryz.f6 := (Option.some.inj (Tryz.func6.symm.trans hfn)).symm
      exact ⟨by kernel_rfl, fun j t ht => by
        rw [Tryz.params6] at ht
        have hm : t ∈ [9, 9, 40] := by simpa using Array.mem_of_getElem? ht
        have hall : ([9, 9, 40].all fun u => !Tryz.prog.wantsStandIn u) = true := by kernel_rfl
        exact (show Tryz.prog.wantsStandIn t = false by simpa using List.all_eq_true.1 hall t hm)⟩)
    (by kernel_rfl)
end Go.Proofs.YtbmdocjeepnhmaaGreatDoor.topCas
namespace Go.Proofs.YtbmdocjeepnhmaaGreatDoor
/-- The card, under a short name, for the claim. -/
theorem topCas_holds : Rows.TopCasCardSaid := topCas.card
#print axioms topCas_holds
end Go.Proofs.YtbmdocjeepnhmaaGreatDoor
