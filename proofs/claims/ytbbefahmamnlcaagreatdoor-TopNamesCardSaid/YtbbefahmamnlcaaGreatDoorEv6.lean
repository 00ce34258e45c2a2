/- The reckoner is right: comparisons, addresses, parts. -/
import Derived.Test.YtbbefahmamnlcaaGreatDoorEv5
import Derived.Great.FillDense
set_option linter.unusedVariables false
set_option linter.unusedSimpArgs false
set_option linter.unusedSectionVars false
namespace Go.Ev
open Go Go.RowKit
section
variable {E : List Ent} {A : Fr} {n : Nat} {a : Act} {P : Program}
theorem eqGuard_run {op : BinOp} {t : TypeId} {x y : Operand} {v u : Value} (h1 : v = .nilIface → u = .nilIface → False) (h2 : ∀ p q, v = .agg p → u = .agg q → False) (w : World) : (eqGuard op t x y v u).run P w = .ok () w := by
 have g1 : ∀ b : Bool, b = true → ∀ (m : Sem Unit), (if (!b) = true then pure () else m) = m := by
  intro b hb m
  subst hb
  rfl
 have g2 : ∀ b : Bool, b = false → ∀ (m : Sem Unit), (if (!b) = true then pure () else m) = pure () := by
  intro b hb m
  subst hb
  rfl
 unfold eqGuard
 cases op <;> first
 | (rw [g2 _ rfl]
    rfl)
 | (rw [g1 _ rfl]
    split
    · exact (h1 rfl rfl).elim
    · exact (h2 _ _ rfl rfl).elim
    · rfl)
theorem equal_run {t : TypeId} {v u : Value} {r : Bool} (h : ∀ w, (Op.equalIn (9999 + 1) t v u).run P w = .ok r w) (w : World) : (Op.equal t v u).run P w = .ok r w := h w
theorem eq_ok {t : TypeId} {p q : A1} {r : Bool} (h : evEq P t p q = some r) {v u : Value} (hv : V1 E p v) (hu : V1 E q u) :
  (∀ w, (Op.equal t v u).run P w = .ok r w) := by
 unfold evEq at h
 split at h
 all_goals first
 | (cases h; done)
 | skip
 all_goals (rename_i hut; injection h with h; subst h)
 all_goals refine fun w => equal_run (fun w => ?_) w
 all_goals simp only [V1] at hv hu
 all_goals first
 | (obtain ⟨_, _, _, rfl⟩ := hu; subst hv)
 | (obtain ⟨_, _, _, rfl⟩ := hv; subst hu)
 | (obtain ⟨_, _, _, rfl, _⟩ := hv; subst hu)
 | (obtain ⟨_, _, rfl⟩ := hv; subst hu)
 | (obtain ⟨_, _, rfl⟩ := hu; subst hv)
 | (subst hv; subst hu)
 all_goals (unfold Op.equalIn; simp only [Sem.run_bind, run_underlying hut])
 all_goals rfl

theorem eq_not_nil {t : TypeId} {p q : A1} {r : Bool} (h : evEq P t p q = some r) {v u : Value} (hv : V1 E p v) (hu : V1 E q u) : (v = .nilIface → u = .nilIface → False) ∧ (∀ x y, v = .agg x → u = .agg y → False) := by
 refine ⟨fun h1 h2 => ?_, fun x y h1 h2 => ?_⟩
 · subst h1; subst h2
   cases p <;> simp only [V1] at hv <;> first
   | (cases hv; done)
   | (obtain ⟨_, _, _, hv⟩ := hv; cases hv; done)
   | (obtain ⟨_, _, _, hv, _⟩ := hv; cases hv; done)
   | (obtain ⟨_, _, hv⟩ := hv; cases hv; done)
   | (obtain ⟨hv, _⟩ := hv; cases hv; done)
   | skip
   all_goals (cases q <;> simp only [V1] at hu <;> first
   | (cases hu; done)
   | (obtain ⟨_, _, _, hu⟩ := hu; cases hu; done)
   | (obtain ⟨_, _, _, hu, _⟩ := hu; cases hu; done)
   | (obtain ⟨_, _, hu⟩ := hu; cases hu; done)
   | (obtain ⟨hu, _⟩ := hu; cases hu; done)
   | skip)
   all_goals (unfold evEq at h; split at h <;> first | (cases h; done) | skip)
   all_goals simp_all
 · have := V1.oneCell p v hv
   subst h1
   cases this
theorem bin_eq {t : TypeId} {p q : A1} {r : Bool} (h : evEq P t p q = some r) {v u : Value} (hv : V1 E p v) (hu : V1 E q u) (w : World) :
  (binOp .eql t v u).run P w = .ok (.bool r) w ∧ (binOp .neq t v u).run P w = .ok (.bool (!r)) w := by
 have key := eq_ok h hv hu w
 have hne : ∀ k n, v = .int k n → False := by
  intro k n e
  subst e
  cases p <;> simp only [V1] at hv <;> first
   | (cases hv; done)
   | (obtain ⟨_, _, _, hv⟩ := hv; cases hv; done)
   | (obtain ⟨_, _, _, hv, _⟩ := hv; cases hv; done)
   | (obtain ⟨_, _, hv⟩ := hv; cases hv; done)
   | (obtain ⟨hv, _⟩ := hv; cases hv; done)
   | skip
  all_goals (unfold evEq at h; split at h <;> first | (cases h; done) | skip)
  all_goals simp_all
 have hns : ∀ s, v = .string s → False := by
  intro k e
  subst e
  cases p <;> simp only [V1] at hv <;> first
   | (cases hv; done)
   | (obtain ⟨_, _, _, hv⟩ := hv; cases hv; done)
   | (obtain ⟨_, _, _, hv, _⟩ := hv; cases hv; done)
   | (obtain ⟨_, _, hv⟩ := hv; cases hv; done)
   | (obtain ⟨hv, _⟩ := hv; cases hv; done)
   | skip
  all_goals (unfold evEq at h; split at h <;> first | (cases h; done) | skip)
  all_goals simp_all
 have hnf : ∀ k n, v = .float k n → False := by
  intro k n e
  subst e
  cases p <;> simp only [V1] at hv <;> first
   | (cases hv; done)
   | (obtain ⟨_, _, _, hv⟩ := hv; cases hv; done)
   | (obtain ⟨_, _, _, hv, _⟩ := hv; cases hv; done)
   | (obtain ⟨_, _, hv⟩ := hv; cases hv; done)
   | (obtain ⟨hv, _⟩ := hv; cases hv; done)
   | skip
  all_goals (unfold evEq at h; split at h <;> first | (cases h; done) | skip)
  all_goals simp_all
 have hnc : ∀ k n m, v = .complex k n m → False := by
  intro k n m e
  subst e
  cases p <;> simp only [V1] at hv <;> first
   | (cases hv; done)
   | (obtain ⟨_, _, _, hv⟩ := hv; cases hv; done)
   | (obtain ⟨_, _, _, hv, _⟩ := hv; cases hv; done)
   | (obtain ⟨_, _, hv⟩ := hv; cases hv; done)
   | (obtain ⟨hv, _⟩ := hv; cases hv; done)
   | skip
  all_goals (unfold evEq at h; split at h <;> first | (cases h; done) | skip)
  all_goals simp_all
 cases v <;> first
 | (exact (hne _ _ rfl).elim)
 | (exact (hns _ rfl).elim)
 | (exact (hnf _ _ rfl).elim)
 | (exact (hnc _ _ _ rfl).elim)
 | (constructor <;> simp only [binOp, Sem.run_bind, key, Result.andThen_ok, Sem.run_pure])
end
end Go.Ev
