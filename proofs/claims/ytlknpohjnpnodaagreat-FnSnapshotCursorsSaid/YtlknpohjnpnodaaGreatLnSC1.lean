/-
 The next row of the join, as the reference looks for it. On the printed functions; conditions: sizes.
-/
import Derived.Test.YtlknpohjnpnodaaGreatLjSC1
namespace Go.Proofs.YtlknpohjnpnodaaGreat
open Go.RowKit
set_option linter.unusedVariables false
set_option linter.unusedSimpArgs false
theorem R4 {α : Type} : ∀ (l : List α) (k i : Nat), (AK k l)[i]? = (l[i]?).map fun x => (k + i, x)
 | [], k, i => by simp [AK]
 | x :: l, k, 0 => by simp [AK]
 | x :: l, k, i + 1 => by
  rw [AK, List.getElem?_cons_succ, List.getElem?_cons_succ, R4 l (k + 1) i]
  congr 1
  funext y
  rw [show k + 1 + i = k + (i + 1) by omega]
theorem XG {α : Type} {l : List α} {k : Nat} (hk : k < l.length) : AA (AK 0 l) (k : Int) = some (k, l[k]) := by
 rw [FI, R4, List.getElem?_eq_getElem hk, Option.map_some, Nat.zero_add]
theorem X8 {l : List (List Int)} {k : Nat} (hk : k < l.length) : okJ l [Sum.inl (k, l[k])] [] = true := by
 simp only [okJ]
 rw [List.getElem?_eq_getElem hk]
 simp
section
variable {d : List Tbl} {q : Qry} {o : List Int}
theorem lb (h : Kb d) (hq : smQ q) (ho : o.length <= lim) (last : List Int) : F1 d q o last = some (njB d q o last) := by
 unfold F1 njB
 rw [k9 h hq ho]
 simp only [Ad]
 have hs := Zi (d := d) (o := o) hq
 generalize ljB d q o = z at hs
 cases hz : z.2.2 with
 | false =>
  have : Ai (BO last z) fz 0 = some (.inl ()) := BJ (body := BO last z) (fun _ => (0 : Int)) 0 (fun k hk => absurd hk (by omega)) (fun rec => by
   unfold BO
   rw [hz]
   cases decide ((0 : Int) < ((AK 0 z.1.2).length : Int)) <;> rfl) fz (by unfold fz; omega)
  rw [this]; rfl
 | true =>
  have := LK (a := z.1.2) (B := BO last z) (fun r => ((last.length : Int) == 0) || decide (0 < Ej r last)) (fun r => (r, true)) hs.1 (fun k hk rec => by
   unfold BO
   rw [G1, AC hk, hz, XG hk, AH hk (Ax hs.1)]
   simp only [cond_true, Ad]
   rw [Ma (hs.2 _ (List.getElem_mem hk)), Am (X8 hk)]
   cases ((last.length : Int) == 0) with
   | true => rfl
   | false =>
    simp only [cond_false, Bool.false_or]
    ) (fun rec => by unfold BO; rw [G1, Ay]; rfl)
  rw [this]
  simp only [cond_true]
  cases z.1.2.find? fun r => ((last.length : Int) == 0) || decide (0 < Ej r last) <;> rfl
end
end Go.Proofs.YtlknpohjnpnodaaGreat
