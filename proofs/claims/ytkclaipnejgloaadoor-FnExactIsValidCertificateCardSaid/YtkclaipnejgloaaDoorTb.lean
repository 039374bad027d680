/-
  The pure machine's table of this program's types, printed by gentab.py, and that it is so. No conditions.
-/
import Derived.Test.YtkclaipnejgloaaDoorKb
import Derived.Test.YtkclaipnejgloaaDoorProg
namespace Go.Proofs.YtkclaipnejgloaaDoor
open Go.RowKit
set_option linter.unusedVariables false
set_option maxRecDepth 100000
theorem agr2 : Agr Tryd.prog 2 (.sc (.int .i64 0)) := agr_int .i64 (by kernel_rfl) (by kernel_rfl)
theorem agr3 : Agr Tryd.prog 3 (.sc (.int .i64 0)) := agr_int .i64 (by kernel_rfl) (by kernel_rfl)
theorem agr4 : Agr Tryd.prog 4 (.sc (.bool false)) := agr_bool (by kernel_rfl) (by kernel_rfl)
theorem agr5 : Agr Tryd.prog 5 (.sc (.int .u8 0)) := agr_int .u8 (by kernel_rfl) (by kernel_rfl)
theorem agr9 : Agr Tryd.prog 9 (.sc (.str [])) := agr_str (by kernel_rfl) (by kernel_rfl)
theorem agr12 : Agr Tryd.prog 12 (.sc (.int .u64 0)) := agr_int .u64 (by kernel_rfl) (by kernel_rfl)
theorem agr21 : Agr Tryd.prog 21 (.sc (.int .i32 0)) := agr_int .i32 (by kernel_rfl) (by kernel_rfl)
theorem agr22 : Agr Tryd.prog 22 (.sl 59 2 40 [.str [], .own 3 0 []]) := agr_sl (zv := .agg #[.string ⟨#[]⟩, .slice none 0 0]) (by kernel_rfl) (by kernel_rfl) (by kernel_rfl) (zl_cons (zc_str) ( zl_cons (zc_own 3) (zl_nil))) rfl (by decide) (by decide) (by decide)
theorem agr23 : Agr Tryd.prog 23 (.sl 3 1 8 [.int .i64 0]) := agr_sl (zv := .int .i64 0) (by kernel_rfl) (by kernel_rfl) (by kernel_rfl) (zl_cons (zc_int .i64) (zl_nil)) rfl (by decide) (by decide) (by decide)
theorem agr25 : Agr Tryd.prog 25 (.st 3 [.int .i64 0, .own 59 0 [], .own 3 0 []] [(0, 1), (1, 1), (2, 1)]) := agr_st (us := [.int .i64 0, .slice none 0 0, .slice none 0 0]) (by kernel_rfl) (zl_cons (zc_int .i64) ( zl_cons (zc_own 59) ( zl_cons (zc_own 3) (zl_nil)))) Tryd.underlying25 (by kernel_rfl) (by decide)
theorem agr26 : Agr Tryd.prog 26 (.sl 82 2 16 [.int .i64 0, .int .i64 0]) := agr_sl (zv := .agg #[.int .i64 0, .int .i64 0]) (by kernel_rfl) (by kernel_rfl) (by kernel_rfl) (zl_cons (zc_int .i64) ( zl_cons (zc_int .i64) (zl_nil))) rfl (by decide) (by decide) (by decide)
theorem agr28 : Agr Tryd.prog 28 (.st 5 [.own 3 0 [], .own 82 0 [], .own 3 0 [], .int .i64 0, .int .i64 0] [(0, 1), (1, 1), (2, 1), (3, 1), (4, 1)]) := agr_st (us := [.slice none 0 0, .slice none 0 0, .slice none 0 0, .int .i64 0, .int .i64 0]) (by kernel_rfl) (zl_cons (zc_own 3) ( zl_cons (zc_own 82) ( zl_cons (zc_own 3) ( zl_cons (zc_int .i64) ( zl_cons (zc_int .i64) (zl_nil)))))) Tryd.underlying28 (by kernel_rfl) (by decide)
theorem agr32 : Agr Tryd.prog 32 (.sl 64 2 40 [.str [], .own 3 0 []]) := agr_sl (zv := .agg #[.string ⟨#[]⟩, .slice none 0 0]) (by kernel_rfl) (by kernel_rfl) (by kernel_rfl) (zl_cons (zc_str) ( zl_cons (zc_own 3) (zl_nil))) rfl (by decide) (by decide) (by decide)
theorem agr34 : Agr Tryd.prog 34 (.st 3 [.int .i64 0, .own 64 0 [], .own 3 0 []] [(0, 1), (1, 1), (2, 1)]) := agr_st (us := [.int .i64 0, .slice none 0 0, .slice none 0 0]) (by kernel_rfl) (zl_cons (zc_int .i64) ( zl_cons (zc_own 64) ( zl_cons (zc_own 3) (zl_nil)))) Tryd.underlying34 (by kernel_rfl) (by decide)
theorem agr36 : Agr Tryd.prog 36 (.sl 66 2 16 [.int .i64 0, .int .i64 0]) := agr_sl (zv := .agg #[.int .i64 0, .int .i64 0]) (by kernel_rfl) (by kernel_rfl) (by kernel_rfl) (zl_cons (zc_int .i64) ( zl_cons (zc_int .i64) (zl_nil))) rfl (by decide) (by decide) (by decide)
theorem agr38 : Agr Tryd.prog 38 (.st 5 [.own 3 0 [], .own 66 0 [], .own 3 0 [], .int .i64 0, .int .i64 0] [(0, 1), (1, 1), (2, 1), (3, 1), (4, 1)]) := agr_st (us := [.slice none 0 0, .slice none 0 0, .slice none 0 0, .int .i64 0, .int .i64 0]) (by kernel_rfl) (zl_cons (zc_own 3) ( zl_cons (zc_own 66) ( zl_cons (zc_own 3) ( zl_cons (zc_int .i64) ( zl_cons (zc_int .i64) (zl_nil)))))) Tryd.underlying38 (by kernel_rfl) (by decide)
theorem agr59 : Agr Tryd.prog 59 (.st 2 [.str [], .own 3 0 []] [(0, 1), (1, 1)]) := agr_st (us := [.string ⟨#[]⟩, .slice none 0 0]) (by kernel_rfl) (zl_cons (zc_str) ( zl_cons (zc_own 3) (zl_nil))) Tryd.underlying59 (by kernel_rfl) (by decide)
theorem agr64 : Agr Tryd.prog 64 (.st 2 [.str [], .own 3 0 []] [(0, 1), (1, 1)]) := agr_st (us := [.string ⟨#[]⟩, .slice none 0 0]) (by kernel_rfl) (zl_cons (zc_str) ( zl_cons (zc_own 3) (zl_nil))) Tryd.underlying64 (by kernel_rfl) (by decide)
theorem agr66 : Agr Tryd.prog 66 (.st 2 [.int .i64 0, .int .i64 0] [(0, 1), (1, 1)]) := agr_st (us := [.int .i64 0, .int .i64 0]) (by kernel_rfl) (zl_cons (zc_int .i64) ( zl_cons (zc_int .i64) (zl_nil))) Tryd.underlying66 (by kernel_rfl) (by decide)
theorem agr73 : Agr Tryd.prog 73 (.st 1 [.own 3 0 []] [(0, 1)]) := agr_st (us := [.slice none 0 0]) (by kernel_rfl) (zl_cons (zc_own 3) (zl_nil)) Tryd.underlying73 (by kernel_rfl) (by decide)
theorem agr82 : Agr Tryd.prog 82 (.st 2 [.int .i64 0, .int .i64 0] [(0, 1), (1, 1)]) := agr_st (us := [.int .i64 0, .int .i64 0]) (by kernel_rfl) (zl_cons (zc_int .i64) ( zl_cons (zc_int .i64) (zl_nil))) Tryd.underlying82 (by kernel_rfl) (by decide)
theorem agr95 : Agr Tryd.prog 95 (.sl 4 1 1 [.bool false]) := agr_sl (zv := .bool false) (by kernel_rfl) (by kernel_rfl) (by kernel_rfl) (zl_cons (zc_bool) (zl_nil)) rfl (by decide) (by decide) (by decide)
theorem agr106 : Agr Tryd.prog 106 (.sc (.int .u32 0)) := agr_int .u32 (by kernel_rfl) (by kernel_rfl)
def tb : Tb := fun t => match t with
  | 2 => some (.sc (.int .i64 0))
  | 3 => some (.sc (.int .i64 0))
  | 4 => some (.sc (.bool false))
  | 5 => some (.sc (.int .u8 0))
  | 9 => some (.sc (.str []))
  | 12 => some (.sc (.int .u64 0))
  | 21 => some (.sc (.int .i32 0))
  | 22 => some (.sl 59 2 40 [.str [], .own 3 0 []])
  | 23 => some (.sl 3 1 8 [.int .i64 0])
  | 25 => some (.st 3 [.int .i64 0, .own 59 0 [], .own 3 0 []] [(0, 1), (1, 1), (2, 1)])
  | 26 => some (.sl 82 2 16 [.int .i64 0, .int .i64 0])
  | 28 => some (.st 5 [.own 3 0 [], .own 82 0 [], .own 3 0 [], .int .i64 0, .int .i64 0] [(0, 1), (1, 1), (2, 1), (3, 1), (4, 1)])
  | 32 => some (.sl 64 2 40 [.str [], .own 3 0 []])
  | 34 => some (.st 3 [.int .i64 0, .own 64 0 [], .own 3 0 []] [(0, 1), (1, 1), (2, 1)])
  | 36 => some (.sl 66 2 16 [.int .i64 0, .int .i64 0])
  | 38 => some (.st 5 [.own 3 0 [], .own 66 0 [], .own 3 0 [], .int .i64 0, .int .i64 0] [(0, 1), (1, 1), (2, 1), (3, 1), (4, 1)])
  | 59 => some (.st 2 [.str [], .own 3 0 []] [(0, 1), (1, 1)])
  | 64 => some (.st 2 [.str [], .own 3 0 []] [(0, 1), (1, 1)])
  | 66 => some (.st 2 [.int .i64 0, .int .i64 0] [(0, 1), (1, 1)])
  | 73 => some (.st 1 [.own 3 0 []] [(0, 1)])
  | 82 => some (.st 2 [.int .i64 0, .int .i64 0] [(0, 1), (1, 1)])
  | 95 => some (.sl 4 1 1 [.bool false])
  | 106 => some (.sc (.int .u32 0))
  | _ => none
theorem tbOk : TbOk Tryd.prog tb := by
  intro t d h
  unfold tb at h
  split at h
  · injection h with h; subst h; exact agr2
  · injection h with h; subst h; exact agr3
  · injection h with h; subst h; exact agr4
  · injection h with h; subst h; exact agr5
  · injection h with h; subst h; exact agr9
  · injection h with h; subst h; exact agr12
  · injection h with h; subst h; exact agr21
  · injection h with h; subst h; exact agr22
  · injection h with h; subst h; exact agr23
  · injection h with h; subst h; exact agr25
  · injection h with h; subst h; exact agr26
  · injection h with h; subst h; exact agr28
  · injection h with h; subst h; exact agr32
  · injection h with h; subst h; exact agr34
  · injection h with h; subst h; exact agr36
  · injection h with h; subst h; exact agr38
  · injection h with h; subst h; exact agr59
  · injection h with h; subst h; exact agr64
  · injection h with h; subst h; exact agr66
  · injection h with h; subst h; exact agr73
  · injection h with h; subst h; exact agr82
  · injection h with h; subst h; exact agr95
  · injection h with h; subst h; exact agr106
  · cases h
theorem mixed : Tryd.prog.follows .mixedOrders = true := by kernel_rfl
abbrev LitF (f : Nat) (bx : List Nat) (base : List (Nat × Nat)) (cn : List (Nat × List Nat)) (fn : Func) : Prop := Lit Tryd.prog f fn.ntmps bx fn.results.toList (litK base cn (cdF fn))
section
variable {nt : Nat} {bx cns : List Nat} {Q : Exit → PS → Prop} {l l' y : LC} {L L' : PL} {σ : PS} {ops : List LO} {fps : List (List Nat × List Nat)} {es : List (List Nat)}
theorem rn (n : Nat) (h : runR tb n l L = some (l', L')) (k : LS Tryd.prog nt bx l' (ofL L') Q) : LS Tryd.prog nt bx l (ofL L) Q := runR_ok tbOk h k
theorem rs (h : evS Tryd.prog tb cns ops σ (fun σ' => LS Tryd.prog nt bx y σ' Q)) : LS Tryd.prog nt bx (.seq (.rgn cns ops) y) σ Q := ls_rs tbOk h
theorem rsB {α : Type} (f : α → List V) (l : List α) (e : TypeId) (es : Nat) {L : PL} {s d t : TypeId} {n : Nat} {ps : Array (Nat × Operand)} {ops' : List LO} (h : bsO tb L s n ps.toList = some (e, es, L, l.flatMap f)) (hn : l.length = n) (hf : ∀ x, (f x).length = es) (k : evS Tryd.prog tb cns ops' (ofL ((d, .own e l.length (l.flatMap f)) :: L)) (fun σ' => LS Tryd.prog nt bx y σ' Q)) : LS Tryd.prog nt bx (.seq (.rgn cns (⟨some d, .buildSlice s n ps, t, none⟩ :: ops')) y) (ofL L) Q := rs (qBk f l e es h hn hf k)
theorem rk (h : ∀ K : PS → Prop, (∀ σ', LS Tryd.prog nt bx y σ' Q → K σ') → evS Tryd.prog tb cns ops σ K) : LS Tryd.prog nt bx (.seq (.rgn cns ops) y) σ Q := ls_rs_k tbOk h
theorem rg (h : evS Tryd.prog tb cns ops σ (Q .normal)) : LS Tryd.prog nt bx (.rgn cns ops) σ Q := ls_rgn tbOk h
theorem rd (hD : (okD fps es ops && okF cns fps ops) = true) (h : evD Tryd.prog tb cns fps ops σ (fun σ' => LS Tryd.prog nt bx y σ' Q)) : LS Tryd.prog nt bx (.seq (.drw cns fps es ops) y) σ Q := ls_rd tbOk mixed hD h
theorem rdk (hD : (okD fps es ops && okF cns fps ops) = true) (h : ∀ K : PS → Prop, (∀ σ', LS Tryd.prog nt bx y σ' Q → K σ') → evD Tryd.prog tb cns fps ops σ K) : LS Tryd.prog nt bx (.seq (.drw cns fps es ops) y) σ Q := ls_rd_k tbOk mixed hD h
theorem rgd (hD : (okD fps es ops && okF cns fps ops) = true) (h : evD Tryd.prog tb cns fps ops σ (Q .normal)) : LS Tryd.prog nt bx (.drw cns fps es ops) σ Q := ls_drw tbOk mixed hD h
theorem st {f : Nat} {fn : Func} {base : List (Nat × Nat)} {cn : List (Nat × List Nat)} {args : List V} {r : V} (hl : LitF f bx base cn fn) (h0 : (Nat.ble args.length fn.ntmps && (args.all plainA && okR (iniL 0 args))) = true) (h : LS Tryd.prog fn.ntmps bx (litK base cn (cdF fn)) (ofL (iniL 0 args)) (retQ tb fn.results.toList r)) : SoundAt Tryd.prog f args r := by
  simp only [Bool.and_eq_true] at h0
  exact sound_lit tbOk hl (nb h0.1) h0.2.1 (qi args h0.2.2 h)
theorem rt (p : Nat) (hD : (okD fps es ops && (okF cns fps ops && okT p es ops)) = true) (h : evD Tryd.prog tb cns (fps.take p) (ops.take p) σ (fun σ' => Gh Tryd.prog nt bx σ' (fun σ2 => evS Tryd.prog tb cns (ops.drop p) σ2 (fun σ' => LS Tryd.prog nt bx y σ' Q)))) : LS Tryd.prog nt bx (.seq (.drw cns fps es ops) y) σ Q := ls_seq (ls_drt tbOk mixed p hD h)
theorem rgt (p : Nat) (hD : (okD fps es ops && (okF cns fps ops && okT p es ops)) = true) (h : evD Tryd.prog tb cns (fps.take p) (ops.take p) σ (fun σ' => Gh Tryd.prog nt bx σ' (fun σ2 => evS Tryd.prog tb cns (ops.drop p) σ2 (Q .normal)))) : LS Tryd.prog nt bx (.drw cns fps es ops) σ Q := ls_drt tbOk mixed p hD h
theorem stp {f : Nat} {fn : Func} {base : List (Nat × Nat)} {cn : List (Nat × List Nat)} {cs args cs' : List V} {r : V} (hl : LitF f bx base cn fn) (h0 : (Nat.ble (args.length + 1) fn.ntmps && ((bx.contains 0 && bx.contains keep0) && (args.all plainA && (!(fn.results.toList.map rvSlot).contains 0 && (cs'.all plainC && okR (iniL 0 (.box cs :: args))))))) = true) (h : LS Tryd.prog fn.ntmps bx (litK base cn (cdF fn)) (ofL (iniL 0 (.box cs :: args))) (retP tb fn.results.toList r cs')) : PtrAt Tryd.prog f cs args cs' r := by
  simp only [Bool.and_eq_true, Bool.not_eq_true'] at h0
  exact ptr_lit tbOk hl (nb h0.1) (by rw [Bool.and_eq_true]; exact h0.2.1) h0.2.2.1 h0.2.2.2.1 h0.2.2.2.2.1 (qi _ h0.2.2.2.2.2 h)
theorem stpo {f : Nat} {fn : Func} {base : List (Nat × Nat)} {cn : List (Nat × List Nat)} {cs args args' cs' : List V} (hl : LitF f bx base cn fn) (hr : fn.results.toList = []) (h0 : (Nat.ble (args.length + 1) fn.ntmps && ((bx.contains 0 && bx.contains keep0) && okR (iniL 0 (.box cs :: args')))) = true) (ha : args.all argAbleA = true) (he : args.map argV = args') (hd : deepL cs = true) (hd' : deepL cs' = true) (h : LS Tryd.prog fn.ntmps bx (litK base cn (cdF fn)) (ofL (iniL 0 (.box cs :: args'))) (retP tb fn.results.toList (.tup []) cs')) : PtrO Tryd.prog f cs args cs' := by
  subst he
  rw [Bool.and_eq_true, Bool.and_eq_true] at h0
  exact ptr_litO tbOk hl (nb h0.1) h0.2.1 ha hr hd hd' (qi _ h0.2.2 h)
theorem stn {f t : Nat} {fn : Func} {base : List (Nat × Nat)} {cn : List (Nat × List Nat)} {args cs : List V} (hl : LitF f bx base cn fn) (hr : fn.results.toList = [.tmp t]) (h0 : (Nat.ble args.length fn.ntmps && (args.all plainA && (cs.all plainC && okR (iniL 0 args)))) = true) (h : LS Tryd.prog fn.ntmps bx (litK base cn (cdF fn)) (ofL (iniL 0 args)) (retN t cs)) : NewAt Tryd.prog f args cs := by
  rw [Bool.and_eq_true, Bool.and_eq_true, Bool.and_eq_true] at h0
  unfold LitF at hl
  rw [hr] at hl
  exact new_lit hl (nb h0.1) h0.2.1 h0.2.2.1 (qi args h0.2.2.2 h)
theorem sta {f : Nat} {fn : Func} {base : List (Nat × Nat)} {cn : List (Nat × List Nat)} {args args' : List V} {r : V} (hl : LitF f bx base cn fn) (h0 : (Nat.ble args.length fn.ntmps && okR (iniL 0 args')) = true) (ha : args.all argAbleA = true) (he : args.map argV = args') (hr : deepT r = true) (h : LS Tryd.prog fn.ntmps bx (litK base cn (cdF fn)) (ofL (iniL 0 args')) (retQ tb fn.results.toList r)) : SoundAt Tryd.prog f args r := by
  subst he
  simp only [Bool.and_eq_true] at h0
  exact sound_litA tbOk hl (nb h0.1) ha hr (qi _ h0.2 h)
end
end Go.Proofs.YtkclaipnejgloaaDoor
