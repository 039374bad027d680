/-
 When a join tree, a decomposition and a plan are valid, part 2: the reference and the program agree. On the printed functions; conditions: lengths.
-/
import Derived.Test.YtceghmdneadhbaaGreatTwWA1
-- pure
namespace Go.Proofs.YtceghmdneadhbaaGreat
open Go.RowKit
set_option linter.unusedVariables false
set_option linter.unusedSimpArgs false
def outB (n : Int) (e : Int) : Bool := !btw e 0 (IntKind.i64.wrap (n - 1))
def avL (a : Atm) (k : Nat) : List Int := ((List.range k).filter fun (v : Nat) => a.2.contains (v : Int)).map fun (v : Nat) => (v : Int)
theorem avL_s (a : Atm) (k : Nat) : avL a (k + 1) = avL a k ++ cond (a.2.contains (k : Int)) [(k : Int)] [] := by
 unfold avL
 rw [List.range_succ,List.filter_append,List.map_append,List.filter_cons,List.filter_nil]
 cases a.2.contains (k : Int) <;> rfl
theorem avL_len (a : Atm) (k : Nat) : (avL a k).length <= k := by
 unfold avL
 rw [List.length_map]
 exact Nat.le_trans (List.length_filter_le _ _) (by simp)
theorem i_av {a : Atm} (h : a.2.length <= lim) (hcv : ∀ v,impl_ContainsVariable a v = some (a.2.contains v)) : impl_AtomVariables a = some (avL a 5) := by
 unfold impl_AtomVariables
 have := loop_to (body := impl_AtomVariables_B1 a) (out := avL a 5) (fun k => (avL a k,(k : Int))) 5 (fun k hk rec => by
  have hl := avL_len a k
  unfold impl_AtomVariables_B1 impl_AtomVariables_J2
  simp only
  rw [decide_eq_true (by omega : (k : Int) < 5),hcv,wrap_in (by omega),avL_s]
  simp only [cond_true,ob_s]
  cases a.2.contains (k : Int) with
  | true => rw [cond_true,chk_pos (by unfold lim; simp; omega)]; rfl
  | false => rw [cond_false,cond_false,List.append_nil]; rfl) (fun rec => by unfold impl_AtomVariables_B1; simp only; rfl) fz (by unfold fz; omega)
 rw [show ((([] : List Int),(0 : Int))) = (avL a 0,((0 : Nat) : Int)) from rfl,this]
 rfl
theorem filt_s {α : Type} (f : α -> Bool) {l : List α} {k : Nat} (hk : k < l.length) : (l.take (k + 1)).filter f = (l.take k).filter f ++ cond (f l[k]) [l[k]] [] := by
 rw [List.take_succ_eq_append_getElem hk,List.filter_append,List.filter_cons,List.filter_nil]
 cases f l[k] <;> rfl
theorem i_cv {a : Atm} (h : a.2.length <= lim) (v : Int) : impl_ContainsVariable a v = some (a.2.contains v) := by
 unfold impl_ContainsVariable
 simp only [i_has h,ob_s]
end Go.Proofs.YtceghmdneadhbaaGreat
