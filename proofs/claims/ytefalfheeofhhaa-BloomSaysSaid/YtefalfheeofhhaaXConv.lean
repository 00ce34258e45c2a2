/- '[]byte(s)' as an event of a walk: the new row is only read, and what was there is as it was. -/
import Derived.Test.YtefalfheeofhhaaWMore
namespace Go.Proofs.YtefalfheeofhhaaW.PrintWords
open Go.RowKit
variable {P : Program} {ops : Array Oper} {rest : List Oper} {o : Oper} {a : Act} {Q : Exit → Act → World → Prop}
theorem conv_gate {w0 W : World} {base e : Nat} {N : Tmp} (_hd : o.dst = some N) (hgd : o.guard = none) {src dst : TypeId} {x : Operand} (ho : o.op = .convert src dst x) (s : ByteArray) (hx : a.eval x = .string s)
    {u : TypeDesc} (hs : P.underlying src = some u) (hd : P.underlying dst = some (.slice e)) (he : P.underlying e = some (.int .u8)) (hsz : s.size ≤ 9223372036854775807) (HB : Below base w0 W) (hbase : base ≤ W.heap.size)
    (h : ∀ v1 w1, Kd.V (Kd.int .u8) e w1 base (fun k => W.heap.size ≤ k) v1 (bytesOf s) → Below base w0 w1 → W.grownBy w1 none → wpList P ops Q rest (a.put o.dst v1) w1) : wpList P ops Q (o :: rest) a W := by
  have hr : (execOp a.eval o).run P W = .ok (.value (.slice (some ⟨W.heap.size, 0, none⟩) (bytesOf s).length (grownCap W s.size 0 e))) (Lib.bytesWorld W e s) := by
    rw [bytesOf_length]
    simp [execOp, ho, hx, print_bytes src dst e hs hd he s W]
  refine Kd.event_run hgd hr (h _ _ (Kd.V_mk ?_ ?_) (bytes_below HB hbase e s) (grown_of_below (bytes_below (Below.refl _ _) (Nat.le_refl _) e s) none))
  · rw [bytesOf_length]
    exact grownCap_ge W s.size 0 e
  · intro W' hW
    rw [bytesOf_length]
    refine Kd.C_of_reads (enc := Value.int .u8) (d := (0 : Int)) (h1 := fun _ => rfl) ⟨bytesOf_length s, hsz, fun hp => ?_⟩
    obtain ⟨ad, he', hc⟩ := (bytes_reads W e s hsz).2.2 hp
    refine ⟨ad, he', fun j hj => ?_⟩
    have hk := hc j hj
    have hb : ad = ⟨W.heap.size, 0, none⟩ := (Option.some.inj he').symm
    subst hb
    rw [add_plain] at hk ⊢
    have h3 := hW W.heap.size (Nat.le_refl _) (by rw [Lib.bytesWorld_size]; omega)
    simpa [World.cell?, h3] using hk
end Go.Proofs.YtefalfheeofhhaaW.PrintWords
