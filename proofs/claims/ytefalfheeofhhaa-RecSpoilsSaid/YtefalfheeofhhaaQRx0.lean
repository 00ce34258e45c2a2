/- Laid by a program of this session: what the Go functions answer, as Lean functions, and the walks that prove it; no condition beyond what each statement names. -/
import Derived.Test.YtefalfheeofhhaaProg
import Derived.Lib.SlBytesConst
import Derived.Test.YtefalfheeofhhaaXConv
import Derived.Test.YtefalfheeofhhaaXMore
import Derived.Below
import Derived.Deep.Draws
import Derived.Deep.AppendLies
import Derived.Maps.AppendAt
import Derived.OwnWalk
import Derived.Laws.BytesArg
import Derived.Laws.MakeOwn
import Derived.Laws.OwnMore
import Derived.Deep.OwnRows
import Derived.Tactics
import Derived.Lib.ConvBytes
import Derived.Laws.Slices
import Derived.WalkKit
import Derived.KernelRfl
import Derived.RowKit3
import Derived.Deep.LoopGhost
import Derived.Deep.QuietTactic
import Derived.BigQuiet
import Derived.WideLaws
import Derived.Deep.DeepCutAuto
import Derived.Deep.CutBlock
import Derived.Deep.RegionHeld3
import Derived.Laws.Rows
import Derived.Lib.AppendStr
import Derived.ArgAppend
import Derived.Laws.IdiomCopy
import Derived.OrdersHeld
import Derived.Laws.BitsLemmas
import Derived.RowKit
import Derived.Test.YtefalfheeofhhaaWWords
import Derived.Test.YtefalfheeofhhaaWLast
import Derived.Test.YtefalfheeofhhaaWTab
import Derived.Test.YtefalfheeofhhaaWFour
import Derived.Test.YtefalfheeofhhaaWQPut
import Derived.Test.YtefalfheeofhhaaWApart
import Derived.Test.YtefalfheeofhhaaWArr
import Derived.Test.YtefalfheeofhhaaWZeros
import Derived.Test.YtefalfheeofhhaaWFoot
import Derived.Test.YtefalfheeofhhaaWKept
import Derived.Test.YtefalfheeofhhaaWShare
import Derived.Test.YtefalfheeofhhaaWN
import Derived.Test.YtefalfheeofhhaaWFootNe
import Derived.Test.YtefalfheeofhhaaWAt
import Derived.Test.YtefalfheeofhhaaWEqStruct
import Derived.Test.YtefalfheeofhhaaWRepsOne
import Derived.Test.YtefalfheeofhhaaWInv
import Derived.Test.YtefalfheeofhhaaWInvWords
import Derived.Test.YtefalfheeofhhaaWGuard
import Derived.Test.YtefalfheeofhhaaWNEv
import Derived.Test.YtefalfheeofhhaaWMore
namespace Go.Proofs.Ytefalfheeofhhaa.QR
open Go.RowKit Go.Proofs.YtefalfheeofhhaaW.PrintWords Go.Proofs.YtefalfheeofhhaaW.PrintLast Go.Proofs.YtefalfheeofhhaaW.PrintMore
attribute [local go_sem] max2_int min2_int max_two min_two max_three min_three max_four min_four   -- for this text's walks alone
set_option linter.unusedVariables false
set_option linter.unusedSimpArgs false



def errW : Option Int → Value
  | none => .nilIface
  | some c => .iface 0 (.int .i64 c)
theorem errW_none : errW none = .nilIface := rfl
theorem errW_some (c : Int) : errW (some c) = .iface 0 (.int .i64 c) := rfl

theorem info5 : (Try.prog.info? 5).map (fun i => (i.zero, i.size, i.bytes)) = some (some (.int .u8 0), 1, 1) := by kernel_rfl
theorem info54 : (Try.prog.info? 54).map (fun i => (i.zero, i.size, i.bytes)) = some (some (.agg #[(.string ⟨#[]⟩), (.string ⟨#[]⟩), (.int .u32 0), (.int .i64 0), (.int .u64 0)]), 5, 56) := by kernel_rfl
-- the values' own types
/-! #### struct type 54 -/
structure S54 where
  f0 : ByteArray
  f1 : ByteArray
  f2 : Int
  f3 : Int
  f4 : Int
def z54 : S54 := ⟨(⟨#[]⟩ : ByteArray), (⟨#[]⟩ : ByteArray), (0 : Int), (0 : Int), (0 : Int)⟩
def k54 : Kd S54 := Kd.iso (Kd.pair Kd.string (Kd.pair Kd.string (Kd.pair (Kd.int .u32) (Kd.pair (Kd.int .i64) (Kd.int .u64))))) (fun x : S54 => (x.f0, x.f1, x.f2, x.f3, x.f4))
theorem k54_open {w : World} {x : S54} {cs : List Value} (h : k54.K w x cs) : cs = [.string x.f0, .string x.f1, .int .u32 x.f2, .int .i64 x.f3, .int .u64 x.f4] := by
  obtain ⟨_, _, rfl, rfl, ⟨_, _, rfl, rfl, ⟨_, _, rfl, rfl, ⟨_, _, rfl, rfl, rfl⟩⟩⟩⟩ := h
  exact rfl
theorem k54_openM {w : World} {base : Nat} {ok : Nat → Prop} {x : S54} {cs : List Value} (h : k54.M w base ok x cs) : cs = [.string x.f0, .string x.f1, .int .u32 x.f2, .int .i64 x.f3, .int .u64 x.f4] := by
  obtain ⟨_, _, rfl, rfl, ⟨_, _, rfl, rfl, ⟨_, _, rfl, rfl, ⟨_, _, rfl, rfl, rfl⟩⟩⟩⟩ := h
  exact rfl
theorem k54_mk (w : World) (x : S54)  : k54.K w x [.string x.f0, .string x.f1, .int .u32 x.f2, .int .i64 x.f3, .int .u64 x.f4] := ⟨[.string x.f0], [.string x.f1, .int .u32 x.f2, .int .i64 x.f3, .int .u64 x.f4], rfl, rfl, ⟨[.string x.f1], [.int .u32 x.f2, .int .i64 x.f3, .int .u64 x.f4], rfl, rfl, ⟨[.int .u32 x.f2], [.int .i64 x.f3, .int .u64 x.f4], rfl, rfl, ⟨[.int .i64 x.f3], [.int .u64 x.f4], rfl, rfl, rfl⟩⟩⟩⟩
theorem k54_mkM (w : World) (base : Nat) (ok : Nat → Prop) (x : S54)  : k54.M w base ok x [.string x.f0, .string x.f1, .int .u32 x.f2, .int .i64 x.f3, .int .u64 x.f4] := ⟨[.string x.f0], [.string x.f1, .int .u32 x.f2, .int .i64 x.f3, .int .u64 x.f4], rfl, rfl, ⟨[.string x.f1], [.int .u32 x.f2, .int .i64 x.f3, .int .u64 x.f4], rfl, rfl, ⟨[.int .u32 x.f2], [.int .i64 x.f3, .int .u64 x.f4], rfl, rfl, ⟨[.int .i64 x.f3], [.int .u64 x.f4], rfl, rfl, rfl⟩⟩⟩⟩
theorem k54_mkF (W : World) (ok : Nat → Prop) (x : S54) : Kd.FK k54 W ok x [.string x.f0, .string x.f1, .int .u32 x.f2, .int .i64 x.f3, .int .u64 x.f4] := fun W2 _ => k54_mk W2 x
def rd_T54 (xs : List S54) (i : Int) : S54 := xs.getD i.toNat z54
theorem at_T54 {w : World} {A : Option Addr} {n : Nat} {xs : List S54} (h : Kd.C k54 w A n xs) (i : Int) (h0 : 0 ≤ i) (h1 : i < n) : ∃ ad , A = some ad ∧ w.cell? (ad.add (i.toNat * 5)) = some (.string (rd_T54 xs i).f0) ∧ w.cell? ⟨(ad.add (i.toNat * 5)).block, (ad.add (i.toNat * 5)).off + 1, none⟩ = some (.string (rd_T54 xs i).f1) ∧ w.cell? ⟨(ad.add (i.toNat * 5)).block, (ad.add (i.toNat * 5)).off + 2, none⟩ = some (.int .u32 (rd_T54 xs i).f2) ∧ w.cell? ⟨(ad.add (i.toNat * 5)).block, (ad.add (i.toNat * 5)).off + 3, none⟩ = some (.int .i64 (rd_T54 xs i).f3) ∧ w.cell? ⟨(ad.add (i.toNat * 5)).block, (ad.add (i.toNat * 5)).off + 4, none⟩ = some (.int .u64 (rd_T54 xs i).f4) := by
  obtain ⟨ad, c, e, _, hK, hc0⟩ := Kd.C_get h z54 i h0 h1
  have hc : ∀ j u, c[j]? = some u → w.cell? (ad.add (i.toNat * 5 + j)) = some u := hc0
  obtain rfl := k54_open hK
  exact ⟨ad, e, hc 0 _ rfl, by rw [← add_field _ _ 1 (by omega)]; exact hc 1 _ rfl, by rw [← add_field _ _ 2 (by omega)]; exact hc 2 _ rfl, by rw [← add_field _ _ 3 (by omega)]; exact hc 3 _ rfl, by rw [← add_field _ _ 4 (by omega)]; exact hc 4 _ rfl⟩

end Go.Proofs.Ytefalfheeofhhaa.QR
