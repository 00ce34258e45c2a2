/- The rows of a step's tables are right. -/
import Derived.Test.YtbmdocjeepnhmaaGreatDoorEwNum
import Derived.Test.YtbmdocjeepnhmaaGreatDoorEwN0
import Derived.Test.YtbmdocjeepnhmaaGreatDoorEwN2
set_option linter.unusedVariables false
set_option linter.unusedSimpArgs false
set_option linter.unusedSectionVars false
namespace Go.Ev
open Go Go.RowKit Go.Proofs
set_option maxRecDepth 100000
theorem slc_un' {k o n j a b o' n' j' : Nat} {lo hi : Option AV} (h1 : a ≤ b ∧ b ≤ n ∧ a < n) (hlo : bnd 0 lo = some a) (hhi : bnd n hi = some b) (e1 : o + a = o') (e2 : b - a = n') (e3 : j + a = j') : evSlice Tryz.prog 23 (ov (.sl k o n (.un j))) lo hi none = some (ov (.sl k o' n' (.un j'))) := by
 subst e1 e2 e3
 have := slc_un (k := k) (o := o) (j := j) h1 hlo hhi
 rw [Nat.mul_one] at this
 exact this
theorem slc_s' {l r : List Nat} {a b : Nat} {lo hi : Option AV} (h1 : a ≤ b ∧ b ≤ l.length) (hlo : bnd 0 lo = some a) (hhi : bnd l.length hi = some b) (e : (l.drop a).take (b - a) = r) : evSlice Tryz.prog 9 (ov (.s l)) lo hi none = some (ov (.s r)) := by
 rw [slc_s h1 hlo hhi, e]
theorem slc_se {l r : List Nat} {a : Nat} {lo : Option AV} (h1 : a ≤ l.length) (hlo : bnd 0 lo = some a) (e : l.drop a = r) : evSlice Tryz.prog 9 (ov (.s l)) lo none none = some (ov (.s r)) := by
 refine slc_s' (b := l.length) ⟨h1, Nat.le_refl _⟩ hlo rfl ?_
 rw [e, List.take_of_length_le]
 rw [← e, List.length_drop]
 exact Nat.le_refl _
theorem len_s' {l : List Nat} {n : Nat} (h : l.length = n) : evLenP Tryz.prog 9 (ov (.s l)) = some (ov (.i .i64 n)) := by rw [← h]; exact len_s
theorem cnv_ii' {s d : TypeId} {ks kd : IntKind} {n m : Int} (hs : Tryz.prog.underlying s = some (.int ks)) (hd : Tryz.prog.underlying d = some (.int kd)) (h : kd.wrap n = m) : evConvP Tryz.prog s d (ov (.i ks n)) = some (ov (.i kd m)) := by rw [cnv_ii hs hd, h]
section
variable {S : Sy} {D : Da} {d : Nat}
theorem Tx.y (hT : Tx D S) (hd : d < 2) (b : Nat) (h1 : b % 2 = 0) (h2 : 50 ≤ b) {x : A1} (e : fD D d b = x) : @A1.den S (.y (b + d)) = x := (hT.v d b hd h1 h2).trans e
theorem rl_str (hT : Tx D S) (hd : d < 2) {x r : A1} {o n : Nat} {q : CapE} {m : List Nat} (hx : @A1.den S x = .sl (bN d) o n q) (hl : o + n ≤ 16 + D.t d + D.n d) (hr : @A1.den S r = .s m) (e : ((D.all d).drop o).take n = m) : @RlOk S Tryz.prog (.str 23 9 x (bN d) (72 + d) r) := by
 refine ⟨conv_none, fun h hg => ?_⟩
 rw [hx, hr]
 refine conv_sl (l := cellsU (D.all d)) (hg.trans (congrArg some (hT.o d 72 hd rfl (by decide)))) (seg_all hl) ?_
 rw [e, u8s_cells]
 intro c hc
 rw [← e] at hc
 exact all_byte c (List.mem_of_mem_drop (List.mem_of_mem_take hc))
theorem rl_lod (hT : Tx D S) (hd : d < 2) {x r : A1} {o c : Nat} (hx : @A1.den S x = .p (bN d) o) (hr : @A1.den S r = .i .u8 (c : Nat)) (e : (D.all d)[o]? = some c) : @RlOk S Tryz.prog (.lod 5 x (bN d) (72 + d) r) := by
 intro h hg
 rw [hx, hr]
 have hg' : h.get (bN d) = some (.row 5 1 (cellsU (D.all d))) := hg.trans (congrArg some (hT.o d 72 hd rfl (by decide)))
 unfold evLoad
 simp only [ov, hg', Option.bind_some, rowOf, g5]
 unfold cellsU
 rw [List.getElem?_map, e]
 rfl
theorem rl_ixa {x i r : A1} {k o n j o' : Nat} {q : CapE} (hx : @A1.den S x = .sl k o n q) (hi : @A1.den S i = .i .i64 (j : Nat)) (hr : @A1.den S r = .p k o') (hj : j < n) (e : o + j = o') : @RlOk S Tryz.prog (.ixa 23 x i r) := by
 show evIndexAddr Tryz.prog 23 (ov (@A1.den S x)) (ov (@A1.den S i)) = some (ov (@A1.den S r))
 rw [hx, hi, hr]
 unfold evIndexAddr
 subst e
 have h1 : (0 : Int) ≤ (j : Nat) ∧ ((j : Nat) : Int) < (n : Nat) := by omega
 simp only [t23, ov, intOf, s5, Option.map_some, Int.toNat_natCast, Nat.mul_one, if_pos h1]
theorem drop_line : (D.all d).drop (12 + D.t d) = [13, 10] ++ (D.s d ++ [13, 10]) := by
 unfold Da.all
 exact List.drop_left' line_len
theorem drop_s : (D.all d).drop (14 + D.t d) = D.s d ++ [13, 10] := by
 rw [show 14 + D.t d = (12 + D.t d) + 2 from by omega, ← List.drop_drop, drop_line]
 rfl
theorem drop_e : (D.all d).drop (14 + D.t d + D.n d) = [13, 10] := by
 rw [← List.drop_drop, drop_s]
 exact List.drop_left' rfl
theorem take_line : ((D.all d).drop 0).take (12 + D.t d) = D.line d := by
 unfold Da.all
 exact List.take_left' line_len
theorem dec_ne : (dec (D.n d) == []) = false := by
 have := dec_len (D.n d)
 cases h : dec (D.n d) with
 | nil => rw [h] at this; simp at this
 | cons a l => rfl
abbrev nn (m : Nat) : A1 := .i .i64 (m : Int)
theorem cst (S : Sy) (k : IntKind) (m : Int) : @A1.den S (.i k m) = .i k m := rfl
theorem cstb (S : Sy) (b : Bool) : @A1.den S (.b b) = .b b := rfl
theorem csts (S : Sy) (l : List Nat) : @A1.den S (.s l) = .s l := rfl
theorem cmp_ok {op : BinOp} {a b : Int} {r : Bool} (h : (match op with | .eql => a == b | .neq => a != b | .lss => decide (a < b) | .leq => decide (a ≤ b) | .gtr => decide (a > b) | .geq => decide (a ≥ b) | _ => !r) = r) : cmpI op a b = some r := by
 cases op <;> first | (simp only [cmpI]; exact congrArg some h) | (cases r <;> cases h)
end
end Go.Ev
namespace Go.Ev
open Go Go.RowKit Go.Proofs
set_option maxRecDepth 100000
section
variable {S : Sy} {D : Da} {d : Nat}
theorem Tx.y50 (hT : Tx D S) (hd : d < 2) : @A1.den S (.y (50 + d)) = .s (D.s d) := hT.y hd 50 rfl (by decide) rfl
theorem Tx.y52 (hT : Tx D S) (hd : d < 2) : @A1.den S (.y (52 + d)) = .i .i64 (D.n d : Nat) := hT.y hd 52 rfl (by decide) rfl
theorem Tx.y54 (hT : Tx D S) (hd : d < 2) : @A1.den S (.y (54 + d)) = .i .u64 (D.n d : Nat) := hT.y hd 54 rfl (by decide) rfl
theorem Tx.y56 (hT : Tx D S) (hd : d < 2) : @A1.den S (.y (56 + d)) = .s (dec (D.n d)) := hT.y hd 56 rfl (by decide) rfl
theorem Tx.y58 (hT : Tx D S) (hd : d < 2) : @A1.den S (.y (58 + d)) = .s (casP ++ dec (D.n d)) := hT.y hd 58 rfl (by decide) rfl
theorem Tx.y60 (hT : Tx D S) (hd : d < 2) : @A1.den S (.y (60 + d)) = .s (casP ++ dec (D.n d) ++ [32]) := hT.y hd 60 rfl (by decide) rfl
theorem Tx.y62 (hT : Tx D S) (hd : d < 2) : @A1.den S (.y (62 + d)) = .s (casP ++ dec (D.n d) ++ [32] ++ [49]) := hT.y hd 62 rfl (by decide) rfl
theorem Tx.y64 (hT : Tx D S) (hd : d < 2) : @A1.den S (.y (64 + d)) = .s (casP ++ dec (D.n d) ++ [32] ++ [49] ++ [13, 10]) := hT.y hd 64 rfl (by decide) rfl
theorem Tx.y66 (hT : Tx D S) (hd : d < 2) : @A1.den S (.y (66 + d)) = .s (casP ++ dec (D.n d) ++ [32] ++ [49] ++ [13, 10] ++ D.s d) := hT.y hd 66 rfl (by decide) rfl
theorem Tx.y68 (hT : Tx D S) (hd : d < 2) : @A1.den S (.y (68 + d)) = .s (casP ++ dec (D.n d) ++ [32] ++ [49] ++ [13, 10] ++ D.s d ++ [13, 10]) := hT.y hd 68 rfl (by decide) rfl
theorem Tx.y72 (hT : Tx D S) (hd : d < 2) : @A1.den S (.y (72 + d)) = .sl (bN d) 0 (16 + D.t d + D.n d) (.un 0) := hT.y hd 72 rfl (by decide) rfl
theorem Tx.y74 (hT : Tx D S) (hd : d < 2) : @A1.den S (.y (74 + d)) = .i .i64 ((13 + D.t d : Nat) : Int) := hT.y hd 74 rfl (by decide) rfl
theorem Tx.y76 (hT : Tx D S) (hd : d < 2) : @A1.den S (.y (76 + d)) = .sl (bN d) 0 (13 + D.t d) (.un 0) := hT.y hd 76 rfl (by decide) rfl
theorem Tx.y78 (hT : Tx D S) (hd : d < 2) : @A1.den S (.y (78 + d)) = .i .i64 ((12 + D.t d : Nat) : Int) := hT.y hd 78 rfl (by decide) rfl
theorem Tx.y80 (hT : Tx D S) (hd : d < 2) : @A1.den S (.y (80 + d)) = .sl (bN d) (12 + D.t d) 1 (.un (12 + D.t d)) := hT.y hd 80 rfl (by decide) rfl
theorem Tx.y82 (hT : Tx D S) (hd : d < 2) : @A1.den S (.y (82 + d)) = .sl (bN d) 0 (12 + D.t d) (.un 0) := hT.y hd 82 rfl (by decide) rfl
theorem Tx.y84 (hT : Tx D S) (hd : d < 2) : @A1.den S (.y (84 + d)) = .s (D.line d) := hT.y hd 84 rfl (by decide) rfl
theorem Tx.y86 (hT : Tx D S) (hd : d < 2) : @A1.den S (.y (86 + d)) = .i .i64 ((14 + D.t d : Nat) : Int) := hT.y hd 86 rfl (by decide) rfl
theorem Tx.y88 (hT : Tx D S) (hd : d < 2) : @A1.den S (.y (88 + d)) = .sl (bN d) (14 + D.t d) (2 + D.n d) (.un (14 + D.t d)) := hT.y hd 88 rfl (by decide) rfl
theorem Tx.y90 (hT : Tx D S) (hd : d < 2) : @A1.den S (.y (90 + d)) = .s ([107, 32, 48, 32, 48, 32] ++ (dec (D.n d) ++ [32, 49])) := hT.y hd 90 rfl (by decide) rfl
theorem Tx.y92 (hT : Tx D S) (hd : d < 2) : @A1.den S (.y (92 + d)) = .s ([48, 32, 48, 32] ++ (dec (D.n d) ++ [32, 49])) := hT.y hd 92 rfl (by decide) rfl
theorem Tx.y94 (hT : Tx D S) (hd : d < 2) : @A1.den S (.y (94 + d)) = .s ([48, 32] ++ (dec (D.n d) ++ [32, 49])) := hT.y hd 94 rfl (by decide) rfl
theorem Tx.y96 (hT : Tx D S) (hd : d < 2) : @A1.den S (.y (96 + d)) = .s (dec (D.n d) ++ [32, 49]) := hT.y hd 96 rfl (by decide) rfl
theorem Tx.y98 (hT : Tx D S) (hd : d < 2) : @A1.den S (.y (98 + d)) = .i .i64 (D.t d : Nat) := hT.y hd 98 rfl (by decide) rfl
theorem Tx.y100 (hT : Tx D S) (hd : d < 2) : @A1.den S (.y (100 + d)) = .i .i64 ((D.t d + 1 : Nat) : Int) := hT.y hd 100 rfl (by decide) rfl
theorem Tx.y102 (hT : Tx D S) (hd : d < 2) : @A1.den S (.y (102 + d)) = .i .i64 ((2 + D.n d : Nat) : Int) := hT.y hd 102 rfl (by decide) rfl
theorem Tx.y104 (hT : Tx D S) (hd : d < 2) : @A1.den S (.y (104 + d)) = .sl (bN d) (14 + D.t d + D.n d) 2 (.un (14 + D.t d + D.n d)) := hT.y hd 104 rfl (by decide) rfl
theorem Tx.y106 (hT : Tx D S) (hd : d < 2) : @A1.den S (.y (106 + d)) = .p (bN d) (14 + D.t d + D.n d) := hT.y hd 106 rfl (by decide) rfl
theorem Tx.y108 (hT : Tx D S) (hd : d < 2) : @A1.den S (.y (108 + d)) = .p (bN d) (15 + D.t d + D.n d) := hT.y hd 108 rfl (by decide) rfl
theorem Tx.y110 (hT : Tx D S) (hd : d < 2) : @A1.den S (.y (110 + d)) = .sl (bN d) (14 + D.t d) (D.n d) (.un (14 + D.t d)) := hT.y hd 110 rfl (by decide) rfl
theorem Tx.y112 (hT : Tx D S) (hd : d < 2) : @A1.den S (.y (112 + d)) = .stl (bN d) (14 + D.t d) 1 (2 + D.n d) (14 + D.t d) := hT.y hd 112 rfl (by decide) rfl
theorem Tx.y116 (hT : Tx D S) (hd : d < 2) : @A1.den S (.y (116 + d)) = .i .i64 ((33 + D.n d : Nat) : Int) := hT.y hd 116 rfl (by decide) rfl
theorem drop_one : (dec (D.n d) ++ [32, 49]).drop (D.t d + 1) = [49] := by
 rw [← List.drop_drop]
 rw [show D.t d = (dec (D.n d)).length from rfl, List.drop_left' rfl]
 rfl
theorem get_cr : (D.all d)[14 + D.t d + D.n d]? = some 13 := by
 have h := congrArg (fun l => l[0]?) (drop_e (D := D) (d := d))
 simp only [List.getElem?_drop, Nat.add_zero] at h
 exact h
theorem get_lf : (D.all d)[15 + D.t d + D.n d]? = some 10 := by
 have h := congrArg (fun l => l[1]?) (drop_e (D := D) (d := d))
 simp only [List.getElem?_drop] at h
 rw [show 15 + D.t d + D.n d = 14 + D.t d + D.n d + 1 from by omega]
 exact h
theorem tabC_ok (hT : Tx D S) (hd : d < 2) : ∀ e ∈ tabC d, @RlOk S Tryz.prog e := by
 have h1 := D.tle d
 have h2 := D.nle d
 have h3 : (dec (D.n d)).length = D.t d := rfl
 unfold tabC
 simp only [List.forall_mem_cons]
 refine ⟨?_, ?_, ?_, ?_, ?_, ?_, ?_, ?_, ?_, ?_, ?_, ?_, ?_, ?_, ?_, ?_, ?_, ?_, ?_, ?_, ?_, ?_, ?_, ?_, ?_, ?_, ?_, ?_, ?_, ?_, ?_, ?_, ?_, ?_, ?_, ?_, ?_, ?_, ?_, ?_, ?_, ?_, ?_, ?_, ?_, ?_, ?_, ?_, ?_, ?_, ?_, ?_, ?_, ?_, ?_, by simp⟩
 · exact rl_bin (hT.y74 hd) (cst S .i64 0) (cstb S false) (by nofun) fun t => bin_ii rfl (cmp_ok (by simp <;> omega))
 · exact rl_slc (hT.y72 hd) (hT.y76 hd) rfl (congrArg (fun q => some (ov q)) (hT.y74 hd)) (slc_un' (by omega) rfl (bnd_i rfl) (by omega) (by omega) (by omega))
 · exact rl_len (hT.y76 hd) (hT.y74 hd) (len_sl t23)
 · exact rl_bin (hT.y74 hd) (cst S .i64 1) (cstb S true) (by nofun) fun t => bin_ii rfl (cmp_ok (by simp <;> omega))
 · exact rl_bin (hT.y74 hd) (cst S .i64 1) (hT.y78 hd) (by nofun) fun t => bin_sub (by rw [wrapI64 (by omega)]; omega)
 · exact rl_slc (hT.y76 hd) (hT.y80 hd) (congrArg (fun q => some (ov q)) (hT.y78 hd)) rfl (slc_un' (by omega) (bnd_i rfl) rfl (by omega) (by omega) (by omega))
 · exact rl_str hT hd (hT.y80 hd) (by omega) (csts S [13]) (by rw [drop_line]; rfl)
 · exact rl_slc (hT.y76 hd) (hT.y82 hd) rfl (congrArg (fun q => some (ov q)) (hT.y78 hd)) (slc_un' (by omega) rfl (bnd_i rfl) (by omega) (by omega) (by omega))
 · exact rl_len (hT.y82 hd) (hT.y78 hd) (len_sl t23)
 · exact rl_bin (hT.y78 hd) (cst S .i64 2048) (cstb S false) (by nofun) fun t => bin_ii rfl (cmp_ok (by simp <;> omega))
 · exact rl_str hT hd (hT.y82 hd) (by omega) (hT.y84 hd) take_line
 · exact rl_bin (hT.y74 hd) (cst S .i64 1) (hT.y86 hd) (by nofun) fun t => bin_add (by rw [wrapI64 (by omega)]; omega)
 · exact rl_slc (hT.y72 hd) (hT.y88 hd) (congrArg (fun q => some (ov q)) (hT.y86 hd)) rfl (slc_un' (by omega) (bnd_i rfl) rfl (by omega) (by omega) (by omega))
 · exact rl_len (hT.y84 hd) (hT.y78 hd) (len_s' line_len)
 · exact rl_bin (hT.y78 hd) (cst S .i64 1) (hT.y74 hd) (by nofun) fun t => bin_add (by rw [wrapI64 (by omega)]; omega)
 · exact rl_bin (csts S [32]) (hT.y84 hd) (cstb S false) (by nofun) fun t => bin_seq rfl
 · exact rl_slc (hT.y84 hd) (csts S [99, 97, 115]) rfl (congrArg (fun q => some (ov q)) (cst S .i64 ((3 : Nat) : Int))) (slc_s' (by rw [line_len]; omega) rfl (bnd_i rfl) rfl)
 · exact rl_slc (hT.y84 hd) (hT.y90 hd) (congrArg (fun q => some (ov q)) (cst S .i64 ((4 : Nat) : Int))) rfl (slc_se (by rw [line_len]; omega) (bnd_i rfl) rfl)
 · exact rl_bin (csts S [32]) (hT.y90 hd) (cstb S false) (by nofun) fun t => bin_seq rfl
 · exact rl_slc (hT.y90 hd) (csts S [107]) rfl (congrArg (fun q => some (ov q)) (cst S .i64 ((1 : Nat) : Int))) (slc_s' (by simp <;> omega) rfl (bnd_i rfl) rfl)
 · exact rl_slc (hT.y90 hd) (hT.y92 hd) (congrArg (fun q => some (ov q)) (cst S .i64 ((2 : Nat) : Int))) rfl (slc_se (by simp <;> omega) (bnd_i rfl) rfl)
 · exact rl_bin (csts S [32]) (hT.y92 hd) (cstb S false) (by nofun) fun t => bin_seq rfl
 · exact rl_slc (hT.y92 hd) (csts S [48]) rfl (congrArg (fun q => some (ov q)) (cst S .i64 ((1 : Nat) : Int))) (slc_s' (by simp <;> omega) rfl (bnd_i rfl) rfl)
 · exact rl_slc (hT.y92 hd) (hT.y94 hd) (congrArg (fun q => some (ov q)) (cst S .i64 ((2 : Nat) : Int))) rfl (slc_se (by simp <;> omega) (bnd_i rfl) rfl)
 · exact rl_bin (csts S [32]) (hT.y94 hd) (cstb S false) (by nofun) fun t => bin_seq rfl
 · exact rl_slc (hT.y94 hd) (csts S [48]) rfl (congrArg (fun q => some (ov q)) (cst S .i64 ((1 : Nat) : Int))) (slc_s' (by simp <;> omega) rfl (bnd_i rfl) rfl)
 · exact rl_slc (hT.y94 hd) (hT.y96 hd) (congrArg (fun q => some (ov q)) (cst S .i64 ((2 : Nat) : Int))) rfl (slc_se (by simp <;> omega) (bnd_i rfl) rfl)
 · exact rl_bin (csts S [32]) (hT.y96 hd) (cstb S false) (by nofun) fun t => bin_seq (beq_false_of_ne fun e => by have := congrArg List.length e; simp at this)
 · exact rl_bin (hT.y98 hd) (cst S .i64 0) (cstb S false) (by nofun) fun t => bin_ii rfl (cmp_ok (by simp <;> omega))
 · exact rl_bin (hT.y98 hd) (cst S .i64 0) (hT.y98 hd) (by nofun) fun t => bin_add (by rw [wrapI64 (by omega)]; omega)
 · exact rl_bin (hT.y98 hd) (cst S .i64 1) (hT.y100 hd) (by nofun) fun t => bin_add (by rw [wrapI64 (by omega)]; omega)
 · exact rl_slc (hT.y96 hd) (hT.y56 hd) rfl (congrArg (fun q => some (ov q)) (hT.y98 hd)) (slc_s' (by simp; exact Nat.le_add_right _ _) rfl (bnd_i rfl) (List.take_left' rfl))
 · exact rl_slc (hT.y96 hd) (csts S [49]) (congrArg (fun q => some (ov q)) (hT.y100 hd)) rfl (slc_se (by simp only [List.length_append, List.length_cons, List.length_nil]; omega) (bnd_i rfl) drop_one)
 · exact rl_bin (hT.y56 hd) (csts S []) (cstb S true) (by nofun) fun t => bin_sne (by rw [dec_ne]; rfl)
 · exact rl_bin (hT.y54 hd) (cst S .u64 2147483647) (cstb S false) (by nofun) fun t => bin_ii rfl (cmp_ok (by simp <;> omega))
 · exact rl_bin (hT.y54 hd) (cst S .u64 1024) (cstb S false) (by nofun) fun t => bin_ii rfl (cmp_ok (by simp <;> omega))
 · exact rl_cnv (hT.y54 hd) (hT.y52 hd) (cnv_ii' t35 t3 (wrapI64 (by omega)))
 · exact rl_bin (hT.y52 hd) (cst S .i64 (-1)) (cstb S false) (by nofun) fun t => bin_ii rfl (cmp_ok (by simp <;> omega))
 · exact rl_len (hT.y88 hd) (hT.y102 hd) (len_sl t23)
 · exact rl_bin (hT.y102 hd) (hT.y52 hd) (cstb S false) (by nofun) fun t => bin_ii rfl (cmp_ok (by simp <;> omega))
 · exact rl_slc (hT.y88 hd) (hT.y104 hd) (congrArg (fun q => some (ov q)) (hT.y52 hd)) rfl (slc_un' (by omega) (bnd_i rfl) rfl (by omega) (by omega) (by omega))
 · exact rl_ixa (hT.y104 hd) (cst S .i64 ((0 : Nat) : Int)) (hT.y106 hd) (by omega) rfl
 · exact rl_lod hT hd (c := 13) (hT.y106 hd) (cst S .u8 13) get_cr
 · exact rl_len (hT.y104 hd) (cst S .i64 ((2 : Nat) : Int)) (len_sl t23)
 · exact rl_ixa (hT.y104 hd) (cst S .i64 ((1 : Nat) : Int)) (hT.y108 hd) (by omega) (by omega)
 · exact rl_lod hT hd (c := 10) (hT.y108 hd) (cst S .u8 10) get_lf
 · exact rl_slc (hT.y88 hd) (hT.y110 hd) rfl (congrArg (fun q => some (ov q)) (hT.y52 hd)) (slc_un' (by omega) rfl (bnd_i rfl) (by omega) (by omega) (by omega))
 · exact rl_str hT hd (hT.y110 hd) (by omega) (hT.y50 hd) (by rw [drop_s]; exact List.take_left' rfl)
 · exact rl_bin (hT.y52 hd) (cst S .i64 2) (hT.y102 hd) (by nofun) fun t => bin_add (by rw [wrapI64 (by omega)]; omega)
 · exact rl_slc (hT.y88 hd) (hT.y112 hd) (congrArg (fun q => some (ov q)) (hT.y102 hd)) rfl (slc_end (bnd_i rfl) rfl)
 · exact rl_len (hT.y50 hd) (hT.y52 hd) len_s
 · exact rl_bin (hT.y52 hd) (cst S .i64 1024) (cstb S true) (by nofun) fun t => bin_ii rfl (cmp_ok (by simp <;> omega))
 · exact rl_bin (hT.y52 hd) (cst S .i64 1024) (cstb S false) (by nofun) fun t => bin_ii rfl (cmp_ok (by simp <;> omega))
 · exact rl_bin (cst S .i64 33) (hT.y52 hd) (hT.y116 hd) (by nofun) fun t => bin_add (by rw [wrapI64 (by omega)]; omega)
 · exact rl_bin (hT.y116 hd) (cst S .i64 0) (cstb S true) (by nofun) fun t => bin_ii rfl (cmp_ok (by simp <;> omega))
theorem tabM_ok (hT : Tx D S) (hd : d < 2) : ∀ e ∈ tabM d, @RlOk S Tryz.prog e := by
 have h1 := D.tle d
 have h2 := D.nle d
 have h3 : (dec (D.n d)).length = D.t d := rfl
 have h4 : (D.s d).length = D.n d := rfl
 unfold tabM
 simp only [List.forall_mem_cons]
 refine ⟨?_, ?_, ?_, ?_, ?_, ?_, ?_, ?_, ?_, by simp⟩
 · exact rl_len (hT.y50 hd) (hT.y52 hd) len_s
 · exact rl_bin (hT.y52 hd) (cst S .i64 500) (cstb S false) (by nofun) fun t => bin_ii rfl (cmp_ok (by simp <;> omega))
 · exact rl_cnv (hT.y52 hd) (hT.y54 hd) (cnv_ii' t3 t35 (wrap64 (by omega)))
 · exact rl_bin (csts S casP) (hT.y56 hd) (hT.y58 hd) (by nofun) fun t => bin_cat (by simp [casP] <;> omega)
 · exact rl_bin (hT.y58 hd) (csts S [32]) (hT.y60 hd) (by nofun) fun t => bin_cat (by simp [casP] <;> omega)
 · exact rl_bin (hT.y60 hd) (csts S [49]) (hT.y62 hd) (by nofun) fun t => bin_cat (by simp [casP] <;> omega)
 · exact rl_bin (hT.y62 hd) (csts S [13, 10]) (hT.y64 hd) (by nofun) fun t => bin_cat (by simp [casP] <;> omega)
 · exact rl_bin (hT.y64 hd) (hT.y50 hd) (hT.y66 hd) (by nofun) fun t => bin_cat (by simp [casP] <;> omega)
 · exact rl_bin (hT.y66 hd) (csts S [13, 10]) (hT.y68 hd) (by nofun) fun t => bin_cat (by simp [casP] <;> omega)
/-- The class of a text's size. -/
def Cls (n k : Nat) : Prop := k < 5 ∧ ∀ j, j ≤ k → (33 + n ≤ ([64, 128, 256, 512, 1024] : List Nat).getD j 0 ↔ j = k)
theorem tabK_ok (hT : Tx D S) (hd : d < 2) {k : Nat} (hk : Cls (D.n d) k) : ∀ e ∈ tabK d k, @RlOk S Tryz.prog e := by
 intro e he
 unfold tabK at he
 obtain ⟨j, hj, rfl⟩ := List.mem_map.1 he
 have hj := List.mem_range.1 hj
 have h1 := hk.2 j (by omega)
 have hg : (([64, 128, 256, 512, 1024] : List Int).getD j 0) = ((([64, 128, 256, 512, 1024] : List Nat).getD j 0 : Nat) : Int) := by
  have : j < 5 := by have := hk.1; omega
  match j, this with
  | 0, _ => rfl
  | 1, _ => rfl
  | 2, _ => rfl
  | 3, _ => rfl
  | 4, _ => rfl
 refine rl_bin (hT.y116 hd) (cst S .i64 _) (cstb S _) (by nofun) fun t => bin_ii rfl (cmp_ok ?_)
 rw [hg]
 cases hb : Nat.beq j k with
 | true =>
  have := Nat.eq_of_beq_eq_true hb
  have := h1.2 this
  simp only [decide_eq_true_eq]
  omega
 | false =>
  have h3 : ¬ j = k := fun e => by rw [e, Nat.beq_refl] at hb; cases hb
  have h4 := mt h1.1 h3
  simp only [decide_eq_false_iff_not]
  omega
theorem tabN_ok (hT : Tx D S) (hd : d < 2) : ∀ e ∈ tabN d, @RlOk S Tryz.prog e := by
 unfold tabN
 simp only [List.forall_mem_cons]
 refine ⟨?_, by simp⟩
 refine rl_len (hT.y112 hd) (cst S .i64 ((0 : Nat) : Int)) ?_
 unfold evLenP
 simp only [t23, ov, lenIn]
 rfl
theorem t2C_ok (hT : Tx D S) (hd : d < 2) : ∀ e ∈ t2C d, @R2Ok S Tryz.prog e := by
 unfold t2C
 simp only [List.forall_mem_cons]
 refine ⟨?_, by simp⟩
 show foldMM _ [ov (@A1.den S (.i .i64 6)), ov (@A1.den S (.y (74 + d)))] = some (ov (@A1.den S (.i .i64 6)))
 rw [hT.y74 hd, cst S .i64 6]
 have h1 : ¬ ((13 + D.t d : Nat) : Int) < 6 := by omega
 show foldMM.go (fun a b => if b < a then b else a) IntKind.i64 6 [ov (.i .i64 ((13 + D.t d : Nat) : Int))] = _
 simp only [foldMM.go, ov, if_true, if_neg h1]
end
end Go.Ev
namespace Go.Ev
open Go Go.RowKit Go.Proofs
set_option maxRecDepth 100000
theorem allAt {p : Nat → Bool} {s v : Nat} (h : (List.range' s 126).all p = true) (h1 : s ≤ v) (h2 : v < s + 126) : p v = true := List.all_eq_true.1 h v (List.mem_range'_1.2 ⟨h1, h2⟩)
theorem num3_at {v : Nat} (hv : v ≤ 500) : ∃ h, callG Tryz.prog KB (evG Tryz.prog KB 300) 285 [.v (.one (.s (dec v)))] hp0 = some (.tup [.one (.i .u64 (.ofNat v)), .one (.b true)], h) := by
 have h1 : isNum v (callG Tryz.prog KB (evG Tryz.prog KB 300) 285 [.v (.one (.s (dec v)))] hp0) = true := by
  rcases Nat.lt_or_ge v 126 with h | h
  · exact allAt num_all0 (Nat.zero_le _) h
  rcases Nat.lt_or_ge v 252 with h' | h'
  · exact allAt num_all1 h h'
  rcases Nat.lt_or_ge v 378 with h'' | h''
  · exact allAt num_all2 h' h''
  · exact allAt num_all3 h'' (by omega)
 unfold isNum at h1
 split at h1
 · rename_i n h hc
   have := Nat.eq_of_beq_eq_true h1
   subst this
   exact ⟨h, hc⟩
 · cases h1
theorem text3_at {v : Nat} (hv : v ≤ 500) : ∃ h, callG Tryz.prog KB (evG Tryz.prog KB 300) 16 [.v (.one (.i .u64 (.ofNat v)))] hp0 = some (.v (.one (.s (dec v))), h) := by
 have h1 : isTx3 v (callG Tryz.prog KB (evG Tryz.prog KB 300) 16 [.v (.one (.i .u64 (.ofNat v)))] hp0) = true := by
  rcases Nat.lt_or_ge v 126 with h | h
  · exact allAt text_all0 (Nat.zero_le _) h
  rcases Nat.lt_or_ge v 252 with h' | h'
  · exact allAt text_all1 h h'
  rcases Nat.lt_or_ge v 378 with h'' | h''
  · exact allAt text_all2 h' h''
  · exact allAt text_all3 h'' (by omega)
 letI : CV := ⟨fun _ => .bool true, fun _ => rfl⟩
 letI : Sy := mkSy (fun _ => .nilp) (fun _ => .siter [] 0)
 unfold isTx3 at h1
 split at h1
 · rename_i l h hc
   rw [eqL_iff] at h1
   subst h1
   exact ⟨h, hc⟩
 · cases h1
section
variable {S : Sy} {D : Da} {d : Nat} {w0 : Base}
theorem xl274 {x y : A1} {k : Nat} {p : Option (Nat × Nat)} {l : List Nat} {r : Int} (hx : ∀ h : Hp, (∀ q, p = some q → h.get q.1 = some (S.o q.2)) → byteL h (ov (@A1.den S x)) = some l) (hr : @A1.den S y = .i .i64 r) (e : idxB 10 l 0 = r) : @XlOk S Tryz.prog w0 ⟨274, [.v (.one x), .v (.one (.i .u8 10))], p, .v (.one y)⟩ := by
 intro h hg E w vs hvs hrep
 refine @ext12_ok S Tryz.prog w0 274 1 _ Tryz.func274 (by kernel_rfl) (by kernel_rfl) (by kernel_rfl) (.inl ⟨rfl, by kernel_rfl⟩) _ h _ ?_ E w vs hvs hrep
 show evExt 1 h [ov (@A1.den S x), ov (.i .u8 (.ofNat 10))] = some (ov (@A1.den S y))
 unfold evExt
 simp only [ov] at hx ⊢
 rw [if_pos (by decide), hx h hg]
 rw [hr, ← e]
 rfl
theorem xl327 {x y : A1} {l : List Nat} {r : Int} (hx : @A1.den S x = .s l) (hr : @A1.den S y = .i .i64 r) (e : idxB 32 l 0 = r) : @XlOk S Tryz.prog w0 ⟨327, [.v (.one x), .v (.one (.i .u8 32))], none, .v (.one y)⟩ := by
 intro h hg E w vs hvs hrep
 refine @ext12_ok S Tryz.prog w0 327 1 _ Tryz.func327 (by kernel_rfl) (by kernel_rfl) (by kernel_rfl) (.inl ⟨rfl, by kernel_rfl⟩) _ h _ ?_ E w vs hvs hrep
 show evExt 1 h [ov (@A1.den S x), ov (.i .u8 (.ofNat 32))] = some (ov (@A1.den S y))
 rw [hx, hr, ← e]
 rfl
theorem xl319 {x y : A1} {l : List Nat} {r : Nat} (hx : @A1.den S x = .s l) (hr : @A1.den S y = .i .i64 (r : Nat)) (e : cntB 32 l = r) : @XlOk S Tryz.prog w0 ⟨319, [.v (.one x), .v (.one (.i .u8 32))], none, .v (.one y)⟩ := by
 intro h hg E w vs hvs hrep
 refine @ext12_ok S Tryz.prog w0 319 2 _ Tryz.func319 (by kernel_rfl) (by kernel_rfl) (by kernel_rfl) (.inr ⟨rfl, by kernel_rfl⟩) _ h _ ?_ E w vs hvs hrep
 show evExt 2 h [ov (@A1.den S x), ov (.i .u8 (.ofNat 32))] = some (ov (@A1.den S y))
 rw [hx, hr, ← e]
 rfl
theorem idxB_skip {c : Nat} : ∀ (l m : List Nat) (i : Nat), (∀ x ∈ l, x ≠ c) → idxB c (l ++ c :: m) i = ((i + l.length : Nat) : Int)
 | [], m, i, _ => by
  show (if c = c then (i : Int) else _) = _
  rw [if_pos rfl]
  rfl
 | a :: l, m, i, h => by
  show (if a = c then (i : Int) else idxB c (l ++ c :: m) (i + 1)) = _
  rw [if_neg (h a List.mem_cons_self), idxB_skip l m (i + 1) fun x hx => h x (List.mem_cons_of_mem _ hx), List.length_cons]
  congr 1
  omega
theorem cntB_app {c : Nat} : ∀ (l m : List Nat), cntB c (l ++ m) = cntB c l + cntB c m
 | [], m => (Nat.zero_add _).symm
 | a :: l, m => by
  show (if a = c then 1 else 0) + cntB c (l ++ m) = (if a = c then 1 else 0) + cntB c l + cntB c m
  rw [cntB_app l m, Nat.add_assoc]
theorem cntB_none {c : Nat} : ∀ (l : List Nat), (∀ x ∈ l, x ≠ c) → cntB c l = 0
 | [], _ => rfl
 | a :: l, h => by
  show (if a = c then 1 else 0) + cntB c l = 0
  rw [if_neg (h a List.mem_cons_self), cntB_none l fun x hx => h x (List.mem_cons_of_mem _ hx)]
theorem dec_not {n c : Nat} (hn : n < 1000) (hc : c < 48) : ∀ x ∈ dec n, x ≠ c := fun x hx => by
 have := dec_dig hn x hx
 omega
theorem idx_line : idxB 10 (D.all d) 0 = ((13 + D.t d : Nat) : Int) := by
 have hn : D.n d < 1000 := by have := D.nle d; omega
 have h1 := idxB_skip (c := 10) (D.line d ++ [13]) (D.s d ++ [13, 10]) 0 (by
  intro x hx
  rcases List.mem_append.1 hx with h | h
  · unfold Da.line at h
    rcases List.mem_append.1 h with h | h
    · have h0 : ∀ c ∈ casP, c ≠ 10 := by decide
      exact h0 x h
    · rcases List.mem_append.1 h with h | h
      · exact dec_not hn (by decide) x h
      · simp at h; omega
  · simp at h; omega)
 rw [show D.all d = D.line d ++ [13] ++ 10 :: (D.s d ++ [13, 10]) from by unfold Da.all; simp, h1]
 simp only [List.length_append, line_len, List.length_cons, List.length_nil]
 congr 1
 omega
theorem cnt_line : cntB 32 (D.line d) = 5 := by
 have hn : D.n d < 1000 := by have := D.nle d; omega
 unfold Da.line
 rw [cntB_app, cntB_app, cntB_none _ (dec_not hn (by decide))]
 rfl
theorem idx_dec : idxB 32 (dec (D.n d) ++ [32, 49]) 0 = (D.t d : Nat) := by
 have hn : D.n d < 1000 := by have := D.nle d; omega
 rw [show dec (D.n d) ++ [32, 49] = dec (D.n d) ++ 32 :: [49] from rfl, idxB_skip _ _ _ (dec_not hn (by decide)), Nat.zero_add]
 rfl
theorem xl285 (hT : Tx D S) (hd : d < 2) : @XlOk S Tryz.prog w0 ⟨285, [.v (.one (.y (56 + d)))], none, .tup [.one (.y (54 + d)), .one (.b true)]⟩ := by
 intro h hg E w vs hvs hrep
 obtain ⟨h', hc⟩ := num3_at (D.nle d)
 have hvs' : All2 (@VV S E) [.v (.one (@A1.den S (.y (56 + d))))] vs := hvs
 show @CallDoes S Tryz.prog w0 E 285 vs.toArray w (.tup [.one (@A1.den S (.y (54 + d))), .one (.b true)]) h
 rw [hT.y56 hd] at hvs'
 rw [hT.y54 hd]
 exact @plain_call S w0 w E h h' 285 300 [.v (.one (.s (dec (D.n d))))] (.tup [.one (.i .u64 (.ofNat (D.n d))), .one (.b true)]) vs hrep hvs' rfl rfl hc
theorem xlC_ok (hT : Tx D S) (hd : d < 2) : ∀ e ∈ xlC d, @XlOk S Tryz.prog w0 e := by
 unfold xlC
 simp only [List.forall_mem_cons]
 refine ⟨xl285 hT hd, ?_, ?_, ?_, ?_, ?_, ?_, ?_, by simp⟩
 · exact xl319 (hT.y84 hd) (cst S .i64 ((5 : Nat) : Int)) cnt_line
 · exact xl327 (hT.y84 hd) (cst S .i64 3) rfl
 · exact xl327 (hT.y90 hd) (cst S .i64 1) rfl
 · exact xl327 (hT.y92 hd) (cst S .i64 1) rfl
 · exact xl327 (hT.y94 hd) (cst S .i64 1) rfl
 · exact xl327 (hT.y96 hd) (hT.y98 hd) idx_dec
 · refine xl274 (k := 0) (fun h hg => ?_) (hT.y74 hd) idx_line
   rw [hT.y72 hd]
   have hg' : h.get (bN d) = some (.row 5 1 (cellsU (D.all d))) := (hg _ rfl).trans (congrArg some (hT.o d 72 hd rfl (by decide)))
   show (cellsIn h 1 (ov (.sl (bN d) 0 (16 + D.t d + D.n d) (.un 0)))).bind u8s = some (D.all d)
   unfold cellsIn
   simp only [ov, hg', Option.bind_some, rowOf, Nat.mul_one]
   rw [seg_all (by omega), Option.bind_some]
   rw [show (List.drop 0 (D.all d)).take (16 + D.t d + D.n d) = D.all d from List.take_of_length_le (by rw [List.drop_zero, all_len]; exact Nat.le_refl _)]
   exact u8s_cells _ all_byte
theorem xlN_ok (hT : Tx D S) (hd : d < 2) : ∀ e ∈ xlN d, @XlOk S Tryz.prog w0 e := by
 unfold xlN
 simp only [List.forall_mem_cons]
 refine ⟨?_, by simp⟩
 refine xl274 (k := 0) (l := []) (fun h hg => ?_) (cst S .i64 (-1)) rfl
 rw [hT.y112 hd]
 rfl
theorem ru2_ok {tab : List Rl} {t2 : List R2} (ht : ∀ e ∈ tab, @RlOk S Tryz.prog e) (h2 : ∀ e ∈ t2, @R2Ok S Tryz.prog e) : @RuOk S Tryz.prog w0 (ru2 Tryz.prog tab t2) := by
 intro A n h o v us hx E a w ha hr
 unfold ru2 at hx
 split at hx
 · rename_i r h1
   cases hx
   exact @ruT2_ok S _ _ _ h2 A n h o v us h1 E a w ha hr
 · exact @ruAll_ok S _ _ _ ht A n h o v us hx E a w ha hr
theorem KT_ok (hT : Tx D S) (hd : d < 2) {tab : List Rl} (ht : ∀ e ∈ tab, @RlOk S Tryz.prog e) : @HkOk S Tryz.prog w0 (KT tab (t2C d) (xlC d)) :=
 @HkOk.mk S _ _ _ (@exT_ok S w0 Tryz.prog _ _ (xlC_ok hT hd) (exI_ok (@exB_ok S w0))) (ru2_ok ht (t2C_ok hT hd)) (@rpT_ok S _ _ ht) (@lo0_ok S w0)
end
end Go.Ev
namespace Go.Ev
open Go Go.RowKit Go.Proofs
set_option maxRecDepth 100000
/-! ### Letters that are the same -/
section
variable {fl : List (Nat × Nat)} {N : Nat}
theorem eqL_refl (l : List Nat) : eqL l l = true := by
 letI : CV := ⟨fun _ => .bool true, fun _ => rfl⟩
 letI : Sy := mkSy (fun _ => .nilp) (fun _ => .siter [] 0)
 rw [eqL_iff]
theorem sim_plain {x : A1} (h : plain1 x = true) : sim1 fl N [] x x = true := by
 cases x with
 | s l =>
  show eqL l l = true
  exact eqL_refl l
 | _ => first | (cases h; done) | simp [sim1]
theorem sim_sl {k o n : Nat} {c : CapE} (h1 : Nat.blt k N = true) (h2 : nmF fl k = k) : sim1 fl N [] (.sl k o n c) (.sl k o n c) = true := by
 cases c <;> simp [sim1, nmB, h1, h2, capB]
theorem sim_stl {k o z a j : Nat} (h1 : Nat.blt k N = true) (h2 : nmF fl k = k) : sim1 fl N [] (.stl k o z a j) (.stl k o z a j) = true := by
 simp [sim1, nmB, h1, h2]
theorem sim_p {k o : Nat} (h1 : Nat.blt k N = true) (h2 : nmF fl k = k) : sim1 fl N [] (.p k o) (.p k o) = true := by
 simp [sim1, nmB, h1, h2]
theorem simL_same {l : List A1} (h : ∀ x ∈ l, plain1 x = true) : simL (sim1 fl N []) l l = true := by
 induction l with
 | nil => rfl
 | cons a l ih =>
  unfold simL
  rw [sim_plain (h a List.mem_cons_self), ih fun x hx => h x (List.mem_cons_of_mem _ hx)]
  rfl
theorem sim_row {t z : Nat} {l : List Nat} : simO fl N [] [] (.row t z (cellsU l)) (.row t z (cellsU l)) = true := by
 show (Nat.beq t t && Nat.beq z z && simL (sim1 fl N []) (cellsU l) (cellsU l)) = true
 rw [simL_same fun x hx => by
  obtain ⟨n, _, rfl⟩ := List.mem_map.1 hx
  rfl, Nat.beq_refl, Nat.beq_refl]
 rfl
end
theorem same814 : (List.range 814).all (fun k => Nat.beq (nmF [] k) k || ([] : List Nat).any (Nat.beq k)) = true := by kernel_rfl
theorem mem_app {p : Rl → Prop} {l m : List Rl} (h1 : ∀ e ∈ l, p e) (h2 : ∀ e ∈ m, p e) : ∀ e ∈ l ++ m, p e := fun e he => (List.mem_append.1 he).elim (h1 e) (h2 e)
/-! ### The letters -/
def fLow (ps : List Int) (i n : Nat) (q : Nat) : A1 := match q with
 | 21 => .c 1
 | 22 => .i .i64 (ps.length : Nat)
 | 23 => .i .i64 (i : Nat)
 | 24 => .c (i + 2)
 | 25 => .i .i64 (ps.getD i 0)
 | 26 => .i .i64 ((i + 1 : Nat) : Int)
 | 27 => .i .i64 (n : Nat)
 | 28 => .i .i64 ((n + 1 : Nat) : Int)
 | 30 => .i .i64 (n : Nat)
 | _ => .nilp
def fAll (D : Da) (ps : List Int) (i n q : Nat) : A1 := bif Nat.blt q 50 then fLow ps i n q else fD D (q % 2) (q - q % 2)
def gAll (D : Da) (q : Nat) : AO := bif Nat.blt q 50 then (bif Nat.beq q 20 then .row 5 1 (cellsU [48]) else .siter [] 0) else gD D (q % 2) (q - q % 2)
abbrev syT [CV] (D : Da) (ps : List Int) (i n : Nat) : Sy := mkSy (fAll D ps i n) (gAll D)
theorem nbA_fD (D : Da) (d b : Nat) : nbA (fD D d b) = fD D d b := by
 unfold fD
 split <;> rfl
theorem nbO_gD (D : Da) (d b : Nat) : nbO (gD D d b) = gD D d b := by
 unfold gD
 split <;> rfl
section
variable [CV] {D : Da} {ps : List Int} {i n : Nat}
theorem blt_no {q k : Nat} (h : k ≤ q) : Nat.blt q k = false := by
 cases hb : Nat.blt q k with
 | false => rfl
 | true => exact absurd (Nat.le_of_ble_eq_true hb) (by omega)
theorem vHigh {q : Nat} (h : 50 ≤ q) : (syT D ps i n).v q = fD D (q % 2) (q - q % 2) := by
 show nbA (fAll D ps i n q) = _
 unfold fAll
 rw [blt_no h, cond_false, nbA_fD]
theorem oHigh {q : Nat} (h : 50 ≤ q) : (syT D ps i n).o q = gD D (q % 2) (q - q % 2) := by
 show nbO (gAll D q) = _
 unfold gAll
 rw [blt_no h, cond_false, nbO_gD]
theorem txT : Tx D (syT D ps i n) where
 v d b hd hb h50 := by
  rw [vHigh (by omega), show (b + d) % 2 = d from by omega, show b + d - d = b from by omega]
 o d b hd hb h50 := by
  rw [oHigh (by omega), show (b + d) % 2 = d from by omega, show b + d - d = b from by omega]
theorem bN_lt (d : Nat) : bN d < 813 := by
 unfold bN
 split <;> decide
theorem sim_fD {fl : List (Nat × Nat)} {N : Nat} (hN : 813 ≤ N) (h0 : ∀ d, nmF fl (bN d) = bN d) (h1 : ∀ d, nmF fl (bN d - 1) = bN d - 1) (d b : Nat) : sim1 fl N [] (fD D d b) (fD D d b) = true := by
 have h2 : Nat.blt (bN d) N = true := Nat.ble_eq_true_of_le (by have := bN_lt d; omega)
 have h3 : Nat.blt (bN d - 1) N = true := Nat.ble_eq_true_of_le (by have := bN_lt d; omega)
 unfold fD
 split <;> first | exact sim_plain rfl | exact sim_sl h2 (h0 d) | exact sim_sl h3 (h1 d) | exact sim_stl h2 (h0 d) | exact sim_p h2 (h0 d)
theorem sim_gD {fl : List (Nat × Nat)} {N d b : Nat} (h : b = 70 ∨ b = 72) : simO fl N [] [] (gD D d b) (gD D d b) = true := by
 rcases h with rfl | rfl <;> exact sim_row
/-- What a pass does to letters: the place goes on, the count stays or goes on. -/
def goodG (x y : Nat) (g : List (Nat × A1)) : Bool := g.all fun p => (Nat.ble 50 p.1 && decide (p.2 = .y p.1)) || decide (p = (23, .y x)) || decide (p = (27, .y y)) || decide (p = (21, .y 21)) || decide (p = (22, .y 22))
def goodO (ol : List (Nat × AO)) : Bool := ol.all fun p => decide (p = (20, .y 20)) || decide (p = (70, .y 70)) || decide (p = (71, .y 71)) || decide (p = (72, .y 72)) || decide (p = (73, .y 73))
theorem let_good {i2 n2 x y N : Nat} {g : List (Nat × A1)} (hg : goodG x y g = true) (hN : 813 ≤ N) (hx : (x = 26 ∧ i2 = i + 1) ∨ (x = 23 ∧ i2 = i)) (hy : (y = 27 ∧ n2 = n) ∨ (y = 28 ∧ n2 = n + 1)) : LetV (syT D ps i n) (syT D ps i2 n2) [] N g := by
 refine ⟨fun _ => rfl, fun p hp => ?_⟩
 have h1 := List.all_eq_true.1 hg p hp
 simp only [Bool.or_eq_true, Bool.and_eq_true, decide_eq_true_eq] at h1
 obtain ⟨a, z⟩ := p
 rcases h1 with (((h1 | h1) | h1) | h1) | h1
 · obtain ⟨h2, h3⟩ := h1
   simp only at h3
   subst h3
   have h2 := Nat.le_of_ble_eq_true h2
   show sim1 [] N [] ((syT D ps i2 n2).v a) ((syT D ps i n).v a) = true
   rw [vHigh h2, vHigh h2]
   exact sim_fD hN (fun _ => rfl) (fun _ => rfl) _ _
 · cases h1
   rcases hx with ⟨rfl, rfl⟩ | ⟨rfl, rfl⟩ <;> exact sim_plain rfl
 · cases h1
   rcases hy with ⟨rfl, rfl⟩ | ⟨rfl, rfl⟩ <;> exact sim_plain rfl
 · cases h1
   rfl
 · cases h1
   exact sim_plain rfl
theorem obj_good {i2 n2 N : Nat} {ol : List (Nat × AO)} (hg : goodO ol = true) : LetH (syT D ps i n) (syT D ps i2 n2) [] N ol := by
 intro p hp
 have h1 := List.all_eq_true.1 hg p hp
 simp only [Bool.or_eq_true, decide_eq_true_eq] at h1
 rcases h1 with (((rfl | rfl) | rfl) | rfl) | rfl <;> exact sim_row
/-! ### The picks -/
def OrdOk (w0 : Base) (ps : List Int) : Prop := ∃ base cap, CV.c 0 = .slice base ps.length cap ∧ ∀ i, i < ps.length → ∃ ad, base = some ad ∧ CV.c (i + 1) = .pointer (some (ad.add i)) ∧ w0.pr (ad.add i).block ∧ w0.w.cell? (ad.add i) = some (.int .i64 (ps.getD i 0))
theorem ruPk_ok {w0 : Base} (hi : i < ps.length) (ho : OrdOk w0 ps) : @RuOk (syT D ps i n) Tryz.prog w0 ruPk := by
 intro A n' h o v us hx E a w ha hr
 letI : Sy := syT D ps i n
 obtain ⟨base, cap, hsl, hat⟩ := ho
 obtain ⟨ad, rfl, hp, hb, hcell⟩ := hat i hi
 obtain ⟨dst, op, ty, pos, after, guard⟩ := o
 unfold ruPk at hx
 simp only at hx
 split at hx
 · rename_i t x j
   split at hx
   · rename_i hc
     obtain ⟨rfl, h1, h2⟩ := hc
     cases hx
     have e1 : a.eval x = CV.c 0 := evA_ok ha x _ h1
     have e2 : a.eval j = .int .i64 (i : Nat) := evA_ok ha j _ h2
     refine ⟨E, w, .pointer (some (ad.add i)), Pre.refl E, hr, hp.symm, .inl ?_⟩
     have hin : (0 : Int) ≤ (i : Nat) ∧ ((i : Nat) : Int) < (ps.length : Int) := ⟨by omega, by omega⟩
     simp [execOp, e1, e2, hsl, Instr.indexAt, asIntOf, run_underlying t40, run_size s3, hin]
     intro h9
     omega
   · cases hx
 · rename_i t x
   split at hx
   · rename_i hc
     obtain ⟨rfl, h1, h2⟩ := hc
     cases hx
     have e1 : a.eval x = CV.c (i + 1) := evA_ok ha x _ h1
     have hcw : w.cell? (ad.add i) = some (.int .i64 (ps.getD i 0)) := by
      rw [← hcell]
      unfold World.cell?
      rw [hr.below.block _ hb]
     refine ⟨E, w, .int .i64 (ps.getD i 0), Pre.refl E, hr, rfl, .inl ?_⟩
     simp [execOp, e1, hp, Instr.loadAt, Instr.sureAddr, loadVar, run_agg g3, run_load, hcw]
   · cases hx
 · cases hx
/-! ### The rows of a pick -/
theorem y21 : @A1.den (syT D ps i n) (.y 21) = .c 1 := rfl
theorem y22 : @A1.den (syT D ps i n) (.y 22) = .i .i64 (ps.length : Nat) := rfl
theorem y23 : @A1.den (syT D ps i n) (.y 23) = .i .i64 (i : Nat) := rfl
theorem y25 : @A1.den (syT D ps i n) (.y 25) = .i .i64 (ps.getD i 0) := rfl
theorem y26 : @A1.den (syT D ps i n) (.y 26) = .i .i64 ((i + 1 : Nat) : Int) := rfl
theorem y27 : @A1.den (syT D ps i n) (.y 27) = .i .i64 (n : Nat) := rfl
theorem y28 : @A1.den (syT D ps i n) (.y 28) = .i .i64 ((n + 1 : Nat) : Int) := rfl
theorem tabI0_ok {b : Bool} (h : decide (i < ps.length) = b) : ∀ e ∈ tabI0 b, @RlOk (syT D ps i n) Tryz.prog e := by
 unfold tabI0
 simp only [List.forall_mem_cons]
 refine ⟨?_, by simp⟩
 refine rl_bin y23 y22 (cstb _ b) (by nofun) fun t => bin_ii rfl (cmp_ok ?_)
 subst h
 simp
theorem tabI1_ok {neg : Bool} (hi : i < ps.length) (hl : ps.length ≤ 10) (hp : decide (ps.getD i 0 < 0) = neg) : ∀ e ∈ tabI1 neg, @RlOk (syT D ps i n) Tryz.prog e := by
 unfold tabI1
 simp only [List.forall_mem_cons]
 refine ⟨?_, ?_, ?_, by simp⟩
 · exact rl_bin y23 y22 (cstb _ true) (by nofun) fun t => bin_ii rfl (cmp_ok (by simp <;> omega))
 · exact rl_bin y25 (cst _ .i64 0) (cstb _ neg) (by nofun) fun t => bin_ii rfl (cmp_ok hp)
 · exact rl_bin y23 (cst _ .i64 1) y26 (by nofun) fun t => bin_add (by rw [wrapI64 (by omega)]; omega)
theorem tabI2_ok {q : Nat} (hi : i < ps.length) (hl : ps.length ≤ 10) (hp : ¬ ps.getD i 0 < 0) (hq : (ps.getD i 0).tmod 3 = q) : ∀ e ∈ tabI2 q, @RlOk (syT D ps i n) Tryz.prog e := by
 intro e he
 rcases List.mem_cons.1 he with rfl | he
 · exact rl_bin y25 (cst _ .i64 3) (cst _ .i64 q) (by nofun) fun t => bin_rem (by decide) hq
 · exact tabI1_ok hi hl (by rw [decide_eq_false_iff_not]; exact hp) e he
theorem addN_ok (h : n ≤ 10) : @RlOk (syT D ps i n) Tryz.prog (.bin .add (.y 27) (.i .i64 1) (.y 28)) :=
 rl_bin y27 (cst _ .i64 1) y28 (by nofun) fun t => bin_add (by rw [wrapI64 (by omega)]; omega)
theorem ruP_ok {S : Sy} {w0 : Base} {tab : List Rl} (hp : @RuOk S Tryz.prog w0 ruPk) (ht : ∀ e ∈ tab, @RlOk S Tryz.prog e) : @RuOk S Tryz.prog w0 (ruP Tryz.prog tab) := by
 intro A n h o v us hx E a w ha hr
 unfold ruP at hx
 split at hx
 · rename_i r h1
   cases hx
   exact hp A n h o v us h1 E a w ha hr
 · exact @ruAll_ok S _ _ _ ht A n h o v us hx E a w ha hr
theorem KP_ok {S : Sy} {w0 : Base} {tab : List Rl} {ex : CallT} (hp : @RuOk S Tryz.prog w0 ruPk) (ht : ∀ e ∈ tab, @RlOk S Tryz.prog e) (hx : @CallOk S Tryz.prog w0 ex) : @HkOk S Tryz.prog w0 (KP tab ex) :=
 @HkOk.mk S _ _ _ hx (ruP_ok hp ht) (@rpT_ok S _ _ ht) (@lo0_ok S w0)
theorem KP0_ok {S : Sy} {w0 : Base} {tab : List Rl} (ht : ∀ e ∈ tab, @RlOk S Tryz.prog e) : @HkOk S Tryz.prog w0 (KP0 tab) :=
 @HkOk.mk S _ _ _ (exI_ok (@exB_ok S w0)) (@ruAll_ok S _ _ _ ht) (@rpT_ok S _ _ ht) (@lo0_ok S w0)
/-! ### A pass -/
def okSt (s : St) : Bool := freeB s.h && Nat.ble 814 s.h.n && Nat.ble s.h.n 2048
/-- A pass that is told of by a table and calls: from the one state to the other; the count stays (27) or goes on (28). -/
def Pass (x : X) (K : Hk) (s s' : St) (k y : Nat) : Prop := ∃ g ol, goodG k y g = true ∧ goodO ol = true ∧ chkR x [] g ol s' (passOf K 3000 17 (false :: false :: way17) s) = true
theorem pass_gen {w0 : Base} {x : X} {K : Hk} {s s' : St} {k y i2 n2 : Nat} (hp : Pass x K s s' k y) (hk : @HkOk (syT D ps i n) Tryz.prog w0 K) (hs : okSt s = true) (hs' : okSt s' = true) (hx : (k = 26 ∧ i2 = i + 1) ∨ (k = 23 ∧ i2 = i)) (hy : (y = 27 ∧ n2 = n) ∨ (y = 28 ∧ n2 = n + 1)) {b : Code} (hb : AtWay Tryz.prog 17 (false :: false :: way17) b) {E : List Ent} {a : Act} {w : World} (ha : @AR (syT D ps i n) E s.A s.n a) (hr : @Rep (syT D ps i n) w0 E s.h w) :
  b.wp Tryz.prog (fun e a' w' => e = toExit x ∧ ∃ E', Keeps 814 [] E E' ∧ @AR (syT D ps i2 n2) E' s'.A s'.n a' ∧ @Rep (syT D ps i2 n2) w0 E' s'.h w') a w := by
 obtain ⟨g, ol, h1, h2, h3⟩ := hp
 unfold okSt at hs hs'
 simp only [Bool.and_eq_true] at hs hs'
 have hn := Nat.le_of_ble_eq_true hs.1.2
 have hn' := Nat.le_of_ble_eq_true hs'.1.2
 refine wp_mono (pass_ok hk h3 hb (freeB_ok hs'.1.1) (Nat.le_of_ble_eq_true hs'.2) (let_good h1 (by omega) hx hy) (obj_good h2) ha hr) ?_
 rintro e a' w' ⟨rfl, E1, E', p1, p2, p3, p4⟩
 exact ⟨rfl, E', keeps_pass p1 p2 (by rw [@Rep.len (syT D ps i n) w0 E s.h w hr]; exact hn) hn' same814, p3, p4⟩
end
end Go.Ev
