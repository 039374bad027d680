/-
  The laid variable: what it holds when a law is called, and that it reads behind the call as before. No conditions.
-/
import Derived.Test.YtkclaipnejgloaaDoorRows
import Derived.Test.YtkclaipnejgloaaDoorKc
import Derived.ChangeVars
import Derived.ChangeSame
import Derived.ChangeArms
import Derived.LaidLaws
import Derived.ProofKit
namespace Go.Proofs.YtkclaipnejgloaaDoor
open Go.RowKit Go.ChangeShapes Go.WideShapes Go.ChangeAt
set_option linter.unusedVariables false
abbrev oneN : String := "loop.example/g01917/impl.oneRational"
abbrev oneL {H : Type} : DataW H := .agg [.lit (.int .i64 1), .lit (.int .i64 1)]
def oneC : Array Value := #[.int .i64 1, .int .i64 1]
theorem one_g : Tryd.prog.globalNamed oneN = some 0 := by kernel_rfl
theorem one_t : (Tryd.prog.globals[0]?).map (·.type) = some 66 := by kernel_rfl
theorem one_cells : Tryd.prog.cellsOf 66 = 2 := by kernel_rfl
theorem one_ci : Tryd.prog.cellsOf 3 = 1 := by kernel_rfl
theorem one_trod {H : Type} {enc : TypeId × Value → H} {W : World} {base : Nat} {sp : Nat → Bool} {held : Bool} {fuel : Nat} {cs : List Value} {x : DataW H × List MemPlace} (h : DataW.trod enc Tryd.prog W base sp held fuel 66 cs = some x) :
    ∃ a b : Int, cs = [.int .i64 a, .int .i64 b] ∧ x = (.agg [.lit (.int .i64 a), .lit (.int .i64 b)], []) := by
  obtain ⟨y0, y1, n, hx, hl, h0, h1⟩ := trod_struct2 Tryd.underlying66 h
  rw [one_cells] at hl
  match cs, hl with
  | [c0, c1], _ =>
    obtain ⟨a, e0, e1, _⟩ := DataW.trod_int Tryd.underlying3 h0
    obtain ⟨b, e2, e3, _⟩ := DataW.trod_int Tryd.underlying3 h1
    simp [one_ci] at e0 e2
    subst e0 e1 e2 e3
    exact ⟨a, b, rfl, by simpa using hx⟩
theorem one_of_laid {W : World} (h : laidMet Tryd.prog [(oneN, oneL)] W) : W.var? Tryd.prog oneN = some oneC := by
  obtain ⟨ps, ⟨g, t, cs, fuel, p, q, hg, ht, hvar, hd, _, _⟩, _⟩ := h
  obtain rfl := Option.some.inj (one_g.symm.trans hg)
  obtain rfl := Option.some.inj (one_t.symm.trans ht)
  rw [hvar]
  obtain ⟨a, b, e1, e2⟩ := one_trod hd
  simp only [oneL, Prod.mk.injEq, DataW.agg.injEq, List.cons.injEq, DataW.lit.injEq, Lit.int.injEq, true_and, and_true] at e2
  obtain ⟨⟨rfl, rfl⟩, _⟩ := e2
  congr 1
  exact Array.toList_inj.1 e1
theorem one_glb {W : World} (h : W.var? Tryd.prog oneN = some oneC) : Glb W (StA W) := by
  have h0 : W.cell? ⟨0, 0, none⟩ = some (.int .i64 1) := World.var?_cell one_g h 0
  have h1 : W.cell? ⟨0, 1, none⟩ = some (.int .i64 1) := World.var?_cell one_g h 1
  intro p hp
  obtain rfl : p = (0, [(.i64, 1), (.i64, 1)]) := by simpa [lays] using hp
  refine ⟨fun _ => cell_lt h0, fun i x hx => ?_⟩
  match i, hx with
  | 0, hx => cases hx; exact h0
  | 1, hx => cases hx; exact h1
/-- the variable's own reading -/
theorem one_vars {H : Type} {enc : TypeId × Value → H} {W : World} (h : W.var? Tryd.prog oneN = some oneC) (sp : Nat → Bool) : DataW.TrodVars enc Tryd.prog W sp [oneN] [oneL] (MemPlace.row ⟨0, 0, none⟩ oneC.size ++ []) := by
  refine trodVars_mk1 (fuel := 2) one_g one_t h ?_
  have h0 : DataW.trod enc Tryd.prog W 0 sp true 1 3 [.int .i64 1] = some (.lit (.int .i64 1), []) := trod_int_mk 0 Tryd.underlying3 (by decide)
  have := trod_struct2_mk (enc := enc) (w := W) (base := 0) (spare := sp) (held := true) (n := 1) (cs := [.int .i64 1, .int .i64 1]) Tryd.underlying66 (by simp [one_cells]) (by simpa [one_ci] using h0) (by simpa [one_ci] using h0)
  have h2 : DataW.trod enc Tryd.prog W 0 sp true 2 66 [.int .i64 1, .int .i64 1] = some (oneL, []) := by simpa using this
  exact h2
theorem one_below {W W' : World} (h : W.var? Tryd.prog oneN = some oneC) (hb : Below W.heap.size W W') : W'.var? Tryd.prog oneN = some oneC := by
  have hlt : 0 < W.heap.size := cell_lt (show W.cell? ⟨0, 0, none⟩ = some (.int .i64 1) from World.var?_cell one_g h 0)
  unfold World.var? at h ⊢
  rw [one_g] at h ⊢
  simp only [Option.bind_some] at h ⊢
  rw [hb.block _ hlt]
  exact h
/-- the last step of a law over a laid variable -/
theorem law_postV {H : Type} {enc : TypeId × Value → H} {f : Func} {s : ChangeSpec} {W W' : World} {args : Array Value} {ds : List (DataW H)} {p q : List MemPlace} {tb : TypeId} (hl : laidOutB Tryd.prog = true)
    (hr : f.params.toList.all (fun t => Tryd.prog.readableRec t && decide (t < Tryd.prog.types.size)) = true) (hvs : s.vars = [oneN]) (hres : f.resultTypes = #[tb]) (htb : Tryd.prog.underlying tb = some .bool)
    (hW : DataW.Whole enc Tryd.prog f.params.toList s.vars false W args.toList ds [oneL] (p ++ q)) (hA : DataW.TrodAll enc Tryd.prog W 0 (fun _ => true) true f.params.toList args.toList ds p) (hv : W.var? Tryd.prog oneN = some oneC)
    (hs : s.fn H (ds ++ [oneL]) = { results := [.lit (.bool true)], args := ds, vars := [oneL] }) (hb : Below W.heap.size W W') :
    s.post enc Tryd.prog f false true false false W args (.bool true) W' := by
  have hlt : ∀ x ∈ p, x.block < W.heap.size := fun x hx => hW.lt x (List.mem_append_left _ hx)
  refine ⟨ds, [oneL], p ++ q, [], p, MemPlace.row ⟨0, 0, none⟩ oneC.size ++ [], hW, ?_, ?_, ?_, hb.frame _, fun h => by cases h⟩
  · rw [hs, hres]
    exact trodAll_cons_mk (shut_bool htb _) trodAll_mk0
  · rw [hs]
    exact trodAll_below hl hb _ hr hA hlt
  · rw [hs, hvs]
    exact one_vars (one_below hv hb) _
noncomputable def laidWorld (os : Os) : World :=
  let w0 := World.holding Tryd.prog os ⟨#[], #[], []⟩
  { w0 with heap := w0.heap.modify 0 fun
      | .cells _ t frozen => .cells oneC t frozen
      | o => o }
theorem laidWorld_met (os : Os) (args : Array Value) : laidMet Tryd.prog [(oneN, oneL)] ((laidWorld os).forCall (fun _ _ => 0) ⟨#[], args, []⟩).memory :=
  laidMet_of_run (ps := [.cell 0 0, .cell 0 1]) 8 (by kernel_rfl) (by kernel_rfl) (by kernel_rfl)
end Go.Proofs.YtkclaipnejgloaaDoor
