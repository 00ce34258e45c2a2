/- TopCas: the whole, with more calls told. -/
import Derived.Test.YtbmdocjeepnhmaaGreatDoorEwTw
set_option linter.unusedVariables false
set_option linter.unusedSimpArgs false
set_option linter.unusedSectionVars false
namespace Go.Ev
open Go Go.RowKit Go.Proofs
set_option maxRecDepth 100000
/-- The same with more calls told. -/
noncomputable def KFe (tab : List Rl) (ex : CallT) (z : St) : Hk := ⟨exT xlF ex, ruL Tryz.prog (tabL ++ tab) t2F, pureT (tabL ++ tab), loR [rowQ z]⟩
theorem KFe_ok {S : Sy} {w0 : Base} {tab : List Rl} {ex : CallT} {z : St} (hp : @RuOk S Tryz.prog w0 ruLen) (ht : ∀ e ∈ tabL ++ tab, @RlOk S Tryz.prog e) (h2 : ∀ e ∈ t2F, @R2Ok S Tryz.prog e) (hx : ∀ e ∈ xlF, @XlOk S Tryz.prog w0 e) (hex : @CallOk S Tryz.prog w0 ex) (hl : ∀ r ∈ [rowQ z], LoROk S w0 r) : @HkOk S Tryz.prog w0 (KFe tab ex z) :=
 @HkOk.mk S _ _ _ (@exT_ok S w0 Tryz.prog _ _ hx hex) (KLL_ok hp ht h2 hx hl).ru (@rpT_ok S _ _ ht) (loR_ok hl)
end Go.Ev
