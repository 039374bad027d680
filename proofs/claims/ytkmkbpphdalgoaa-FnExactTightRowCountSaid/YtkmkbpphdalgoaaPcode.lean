/-
  The pure machine, part 8: calls, regions, and the code of a function. Over no program; no conditions.
-/
import Derived.Test.YtkmkbpphdalgoaaPuni
namespace Go.Proofs.Ytkmkbpphdalgoaa
open Go.RowKit
set_option linter.unusedVariables false

def RdAs (w : World) (St : Nat → Nat → Prop) : List V → List Value → Prop
  | [], us => us = []
  | c :: cs, us => ∃ u us', us = u :: us' ∧ RdA w St c u ∧ RdAs w St cs us'
/-- what a call has made of the world, and what it returns -/
def Ret (P : Program) (w : World) (St : Nat → Nat → Prop) (r : V) (e : Ending) (w' : World) : Prop :=
  ∃ v bs St', e = .returned v ∧ Below w.heap.size w w' ∧ (∀ b o, b < w.heap.size → (St' b o ↔ St b o)) ∧ (∀ b o, St' b o → b < w'.heap.size) ∧ Ow P w' St' r v bs ∧ bs.Nodup ∧ ∀ g ∈ bs, w.heap.size ≤ g ∧ g < w'.heap.size
/-- a function that has a body in Go -/
def HasBody (P : Program) (f : FuncId) : Prop := ∃ fn, P.funcs[f]? = some fn ∧ fn.body.isNone = false ∧ (fn.name == "runtime.NumGoroutine") = false
/-- Called with data that read as args, the function returns r. -/
def SoundAt (P : Program) (f : FuncId) (args : List V) (r : V) : Prop :=
  HasBody P f ∧ ∀ w St (vs : List Value), (∀ b o, St b o → b < w.heap.size) → RdAs w St args vs → Calls P f vs.toArray w (Ret P w St r)
section
variable {P : Program} {nt base : Nat} {bx : List Nat} {St St' St0 : Nat → Nat → Prop} {B : Nat → List Nat} {hand : List Nat} {σ σ' : PS} {a : Act} {w w' w0 : World} {K : PS → Prop} {Q : Exit → Act → World → Prop} {o : Oper}
theorem args_rd (h : HSim P nt bx base St B hand σ a w) : ∀ (xs : List Operand), xs.all (fun x => (opV σ x).isArg) = true → RdAs w St (xs.map fun x => er (opV σ x)) (xs.map a.eval)
  | [], _ => rfl
  | x :: xs, hv => by
    simp only [List.all_cons, Bool.and_eq_true] at hv
    obtain ⟨b, hx⟩ := opnd h x
    exact ⟨a.eval x, xs.map a.eval, rfl, ((hx.ow (val_of_arg hv.1)).rda hv.1).erase, args_rd h xs hv.2⟩
def putD (σ : PS) (d : Option Tmp) (r : V) : PS := match d with
  | some d => upd σ d r
  | none => σ
theorem opS_call {f : FuncId} {args : Array Operand} {ts : Array TypeId} {r : V} (hop : o.op = .call { callee := .value (.func f), args := args, argTypes := ts }) (hargs : args.toList.all (fun x => (opV σ x).isArg) = true)
    (hs : SoundAt P f (args.toList.map fun x => er (opV σ x)) r) (hd : ∀ d, o.dst = some d → d < nt ∧ d ∉ bx) (hk : K (putD σ o.dst r)) : OpS P nt bx base St0 w0 o σ K := by
  rintro a w Q ⟨St, B, h, hb, hst, hz⟩
  obtain ⟨⟨fn, hf, hbody, hname⟩, hc⟩ := hs
  have hcall := hc w St (args.toList.map a.eval) h.st (args_rd h _ hargs)
  have hr : (execOp a.eval o).run P w = .ok (.enter f (args.toList.map a.eval).toArray) w := by
    have e1 : (args.toList.map a.eval).toArray = args.map a.eval := by rw [← Array.toList_map, Array.toArray_toList]
    have e2 : a.eval (.func f) = .func (.func f) #[] #[] := rfl
    rw [e1]
    simp only [execOp, hop, resolve, e2, Deferred.ofValue, Sem.run_bind, Sem.run_pure, Result.andThen_ok, invoke, callFunc, run_program, Array.append_empty, Array.empty_append, hf, hbody, hname]
    simp
  unfold Oper.wp
  rw [hr, Oper.upon_enter]
  refine hcall.mono ?_
  rintro e w1 ⟨v, bs, St1, rfl, h1, h2, h3, h4, h5, h6⟩
  refine ⟨_, hk, ?_⟩
  have g1 := h.grow (w' := w1) (St' := St1) h1 h2 h3
  have g2 := g1.fresh (bs := bs) h5 (fun g hg => ⟨Nat.le_trans hz (h6 g hg).1, (h6 g hg).2⟩) (fun s g hg hm => by have := (h.range s g hg).2; have := (h6 g hm).1; omega) (by simp)
  have hst1 : ∀ b o', b < base → (St1 b o' ↔ St0 b o') := fun b o' hlt => (h2 b o' (by omega)).trans (hst b o' hlt)
  cases hdst : o.dst with
  | none => exact ⟨St1, B, g2.less List.nodup_nil (by simp), hb.trans (h1.mono hz), hst1, Nat.le_trans hz h1.size⟩
  | some d =>
    obtain ⟨hd1, hd2⟩ := hd d hdst
    exact ⟨St1, upd B d bs, g2.put hd1 hd2 h4.slot h5 (by simp) h4.notBox.1 h4.noRef, hb.trans (h1.mono hz), hst1, Nat.le_trans hz h1.size⟩
end

/-! ### operations one behind the other -/
/-- the value of a guard: known, and true -/
def known : V → Bool
  | .undef => false
  | .same _ => false
  | _ => true
def isB (b : Bool) : V → Bool
  | .bool c => c == b
  | _ => false
def gD (ops : Array Oper) (j : Nat) : Option Nat := (ops[j]?).bind (·.dst)
/-- an operation without its place in the text and its edges; the guard by its slot -/
structure LO where
  dst : Option Nat
  op : Op
  ty : TypeId
  g : Option (Option Nat × Bool)
def liteO (ops : Array Oper) (o : Oper) : LO := ⟨o.dst, o.op, o.type, o.guard.map fun p => (gD ops p.1, p.2)⟩
/-- what an operation that only reads leaves, and what it asks -/
def pureS (tb : Tb) (o : LO) (σ : PS) (K : PS → Prop) : Prop :=
  match o.dst with
  | none => False
  | some d => match o.g with
    | none => pc tb σ o.op ∧ K (upd σ d (pv tb σ o.op))
    | some (none, _) => False
    | some (some q, b) => known (σ q) = true ∧ (isB b (σ q) = true → pc tb σ o.op ∧ K (upd σ d (pv tb σ o.op))) ∧ (isB b (σ q) = false → K (upd σ d (.tup [])))
/-- simp stops here -/
structure Tag (p : Prop) where
  n : Nat
def LaterT (p : Prop) (_ : Tag p) : Prop := p
def callS (P : Program) (o : LO) (f : FuncId) (args : List Operand) (σ : PS) (K : PS → Prop) : Prop :=
  match o.g with
  | none => args.all (fun x => (opV σ x).isArg) = true ∧ ∃ r, SoundAt P f (args.map fun x => er (opV σ x)) r ∧ LaterT (K (putD σ o.dst r)) ⟨0⟩
  | some (q, b) => match q, o.dst with
    | some q, some d => known (σ q) = true ∧ (isB b (σ q) = true → args.all (fun x => (opV σ x).isArg) = true ∧ ∃ r, SoundAt P f (args.map fun x => er (opV σ x)) r ∧ LaterT (K (upd σ d r)) ⟨0⟩) ∧ (isB b (σ q) = false → K (upd σ d (.tup [])))
    | _, _ => False
/-- the value of an assignment: nil is an empty slice of the call's own -/
def asgS (tb : Tb) (o : LO) (x : Operand) (d : Nat) (σ : PS) (K : PS → Prop) : Prop :=
  match x with
  | .const (.slice none 0 0) => match tb o.ty with
    | some (.sl e _ _ _) => K (upd σ d (.own e 0 []))
    | _ => False
  | .tmp p => match σ p with
    | .uni e n cs => K (upd (upd (kill [p] σ) p (.dat n cs)) d (.own e n cs))
    | c => c.isVal = true ∧ K (upd (takeS σ (.tmp p)) d c)
  | x => (opV σ x).isVal = true ∧ K (upd (takeS σ x) d (opV σ x))
def notBox (c : V) : Bool := match bxOf c with
  | none => true
  | some _ => false
/-- a slice that may be written goes over -/
def asgU (x : Operand) (d : Nat) (σ : PS) (K : PS → Prop) : Prop :=
  match x with
  | .tmp p => match σ p with
    | .uni e n cs => notBox (kill [p] σ d) = true ∧ K (upd (kill [p] σ) d (.uni e n cs))
    | _ => False
  | _ => False
def loadS (tb : Tb) (t : TypeId) (x : Operand) (d : Nat) (σ : PS) (K : PS → Prop) : Prop :=
  match tb t, adV σ x with
  | some dd, .cref s off => match bxOf (σ s) with
    | some cs => off + dd.size ≤ cs.length ∧ K (upd (upd σ s (setBx (σ s) (leftCells dd.size cs off))) d (ownCells dd cs off))
    | none => False
  | some dd, .adr cs off => off + dd.size ≤ cs.length ∧ K (upd σ d (getCells dd cs off))
  | _, _ => False
def extS (s i d : Nat) (σ : PS) (K : PS → Prop) : Prop :=
  match σ s with
  | .tup cs => match cs[i]? with
    | some c => cs.all V.isArg = true ∧ K (upd (upd σ s (.tup (cs.set i (dg2 c)))) d c)
    | none => False
  | _ => False
def stoS (tb : Tb) (t : TypeId) (x y : Operand) (σ : PS) (K : PS → Prop) : Prop :=
  match tb t, adV σ x with
  | some dd, .cref s off => match bxOf (σ s) with
    | some cs => (opV σ y).isArg = true ∧ (cellsV (opV σ y)).length = dd.size ∧ off + dd.size ≤ cs.length ∧ K (upd (takeS σ y) s (setBx (σ s) (repl cs off (cellsV (opV σ y)))))
    | none => False
  | _, _ => False
def allocS (tb : Tb) (t : TypeId) (d : Nat) (σ : PS) (K : PS → Prop) : Prop :=
  match tb t with
  | some dd => notBox (σ d) = true ∧ K (upd σ d (.box (zeroL dd)))
  | none => False
def boxS (x : Operand) (d : Nat) (σ : PS) (K : PS → Prop) : Prop := (opV σ x).isArg = true ∧ notBox (takeS σ x d) = true ∧ K (upd (takeS σ x) d (.box (cellsV (opV σ x))))
def buildS (tb : Tb) (t : TypeId) (parts : List (Nat × Operand)) (d : Nat) (σ : PS) (K : PS → Prop) : Prop :=
  match tb t with
  | some (.st _ z fs) => match fillP (fun i => fs[i]?) parts σ z with
    | some (σ', cs) => K (upd σ' d (.agg cs))
    | none => False
  | _ => False
def bslS (tb : Tb) (t : TypeId) (n : Nat) (parts : List (Nat × Operand)) (d : Nat) (σ : PS) (K : PS → Prop) : Prop :=
  match tb t with
  | some (.sl e es _ ez) => match fillP (fun i => some (i * es, es)) parts σ (zrow ez es n) with
    | some (σ', cs) => n * es ≤ 16777216 ∧ cs.length = n * es ∧ K (upd σ' d (.own e n cs))
    | none => False
  | _ => False
def makeS (tb : Tb) (t : TypeId) (x y : Operand) (d : Nat) (σ : PS) (K : PS → Prop) : Prop :=
  match tb t, opV σ x, opV σ y with
  | some (.sl e es _ ez), .int _ n, .int _ m => 0 ≤ n ∧ n = m ∧ n.toNat ≤ lim ∧ K (upd σ d (.own e n.toNat (zrow ez es n.toNat)))
  | _, _, _ => False
/-- a new slice that may be written -/
def makeU (tb : Tb) (t : TypeId) (x y : Operand) (d : Nat) (σ : PS) (K : PS → Prop) : Prop :=
  match tb t, opV σ x, opV σ y with
  | some (.sl e es _ ez), .int _ n, .int _ m => 0 ≤ n ∧ n = m ∧ n.toNat ≤ lim ∧ notBox (σ d) = true ∧ K (upd σ d (.uni e n.toNat (zrow ez es n.toNat)))
  | _, _, _ => False
def appS (tb : Tb) (t t' : TypeId) (x y : Operand) (d : Nat) (σ : PS) (K : PS → Prop) : Prop :=
  match tb t, opV σ x, slOf (opV (takeS σ x) y) with
  | some (.sl e es _ _), .own e' n cs, some (m, ds) => t' = t ∧ e' = e ∧ ds.length = m * es ∧ n + m ≤ lim ∧ K (upd (takeS (takeS σ x) y) d (.own e (n + m) (cs ++ appY (opV (takeS σ x) y))))
  | _, _, _ => False
def callS' (P : Program) (tb : Tb) (o : LO) (c : Call) (σ : PS) (K : PS → Prop) : Prop :=
  match c.callee, o.dst, c.args.toList, c.argTypes.toList with
  | .value (.func f), _, args, _ => callS P o f args σ K
  | .builtin .append, some d, [x, y], [t, t'] => o.g = none ∧ appS tb t t' x y d σ K
  | _, _, _, _ => pureS tb o σ K
/-- One operation; cns: the slots whose values are to be taken over, not copied. -/
def evO (P : Program) (tb : Tb) (cns : List Nat) (o : LO) (σ : PS) (K : PS → Prop) : Prop :=
  match o.op, o.dst with
  | .assign x, some d => if cns.contains d = true then o.g = none ∧ asgU x d σ K else o.g = none ∧ asgS tb o x d σ K
  | .move x, some d => if cns.contains d = true then o.g = none ∧ asgS tb o x d σ K else pureS tb o σ K
  | .load t x, some d => if cns.contains d = true then o.g = none ∧ loadS tb t x d σ K else pureS tb o σ K
  | .extract (.tmp s) i, some d => o.g = none ∧ extS s i d σ K
  | .store t x y, none => o.g = none ∧ stoS tb t x y σ K
  | .alloc t, some d => o.g = none ∧ allocS tb t d σ K
  | .box _ x, some d => o.g = none ∧ boxS x d σ K
  | .build t ps, some d => o.g = none ∧ buildS tb t ps.toList d σ K
  | .buildSlice t n ps, some d => o.g = none ∧ bslS tb t n ps.toList d σ K
  | .makeSlice t x y, some d => if cns.contains d = true then o.g = none ∧ makeU tb t x y d σ K else o.g = none ∧ makeS tb t x y d σ K
  | .call c, _ => callS' P tb o c σ K
  | _, _ => pureS tb o σ K
/-- the slot of an operation's value is in range, and a variable's slot is written by 'new variable' alone -/
def okOp (nt : Nat) (bx : List Nat) (o : Oper) : Bool :=
  match o.dst with
  | none => true
  | some d => decide (d < nt) && (match o.op with
    | .alloc _ | .box _ _ => bx.contains d
    | .assign _ | .makeSlice _ _ _ => true
    | _ => !bx.contains d)
/-- the slots that hold slices that may be written are marked as such in the region -/
def okA (bx cns : List Nat) (o : LO) : Bool :=
  match o.op, o.dst with
  | .assign _, some d => cns.contains d == bx.contains d
  | .makeSlice _ _ _, some d => cns.contains d == bx.contains d
  | _, _ => true
/-- an operation of a region, guard and all -/
def StepS (P : Program) (nt : Nat) (bx : List Nat) (ops : Array Oper) (o : Oper) (σ : PS) (K : PS → Prop) : Prop :=
  ∀ base St0 w0 a w Q, Rel P nt bx base St0 w0 σ a w →
    if Region.wanted o (yielded ops a.tmps) then o.wp P a w (fun a' w' => ∃ σ', K σ' ∧ Rel P nt bx base St0 w0 σ' a' w') Q else ∃ σ', K σ' ∧ Rel P nt bx base St0 w0 σ' (a.put o.dst undef) w
section
variable {P : Program} {nt base : Nat} {bx : List Nat} {ops : Array Oper} {σ : PS} {K : PS → Prop} {o : Oper} {tb : Tb}
theorem stepS_op (hg : o.guard = none) (h : ∀ base St0 w0, OpS P nt bx base St0 w0 o σ K) : StepS P nt bx ops o σ K := by
  intro base St0 w0 a w Q hr
  have : Region.wanted o (yielded ops a.tmps) = true := by simp [Region.wanted, hg]
  rw [if_pos this]
  exact h base St0 w0 a w Q hr
theorem slot_notBool {w : World} {St : Nat → Nat → Prop} {t : Nat → Value} {c : V} {b : Bool} {bs : List Nat} (hk : known c = true) (hb : isB b c = false) : ¬ SlotR P w St t c (.bool b) bs := by
  intro h
  cases c with
  | undef => cases hk
  | same s => cases hk
  | bool c => have := slot_bool h; simp only [Value.bool.injEq] at this; subst this; simp [isB] at hb
  | int k n => have := slot_int h; cases this
  | str s => have := (slot_str h).1; cases this
  | own e n cs => obtain ⟨_, A, c, e, _⟩ := slot_slOf (c := .own e n cs) rfl h; cases e
  | dat n cs => obtain ⟨_, A, c, e, _⟩ := slot_slOf (c := .dat n cs) rfl h; cases e
  | agg cs => obtain ⟨us, e, _⟩ := h; cases e
  | tup cs => obtain ⟨us, e, _⟩ := h; cases e
  | arg n cs => obtain ⟨_, A, c, e, _⟩ := slot_slOf (c := .arg n cs) rfl h; cases e
  | via n cs => obtain ⟨_, A, c, e, _⟩ := slot_slOf (c := .via n cs) rfl h; cases e
  | box cs => obtain ⟨g, T, b', arr, e, _⟩ := h; cases e
  | uni e n cs => obtain ⟨g, b', arr, e, _⟩ := h; cases e
  | cref s o => obtain ⟨_, g, _, e⟩ := h; cases e
  | adr cs o => obtain ⟨_, g, _, e, _⟩ := h; cases e
theorem guard_of {St0 : Nat → Nat → Prop} {w0 w : World} {a : Act} (hr : Rel P nt bx base St0 w0 σ a w) {j q : Nat} {b : Bool} (hg : o.guard = some (j, b)) (hq : gD ops j = some q) (hk : known (σ q) = true) : Region.wanted o (yielded ops a.tmps) = isB b (σ q) := by
  obtain ⟨St, B, h, _⟩ := hr
  have hs := h.slot q
  have hw : Region.wanted o (yielded ops a.tmps) = ((match a.tmps[q]? with | some (.bool c) => some c | _ => none : Option Bool) == some b) := by
    unfold gD at hq
    simp only [Region.wanted, hg, yielded, hq, Option.bind_some]
    rfl
  have htm : ∀ v, a.tmps[q]? = some v → tm a q = v := by
    intro v hv
    unfold tm
    rw [Array.getD_eq_getD_getElem?, hv]; rfl
  rw [hw]
  cases hc : σ q with
  | bool c =>
    rw [hc] at hs
    have hv := slot_bool hs
    cases hx : a.tmps[q]? with
    | none =>
      unfold tm at hv
      rw [Array.getD_eq_getD_getElem?, hx] at hv
      simp [undef] at hv
    | some u =>
      rw [htm u hx] at hv
      subst hv
      simp [isB]
  | undef => rw [hc] at hk; cases hk
  | same s => rw [hc] at hk; cases hk
  | _ =>
    cases hx : a.tmps[q]? with
    | none => rfl
    | some u =>
      have hu := htm u hx
      rw [hc, hu] at hs
      cases u with
      | bool c => exact absurd hs (slot_notBool (by rfl) (by rfl))
      | _ => rfl
theorem rel_skip {St0 : Nat → Nat → Prop} {w0 w : World} {a : Act} (hr : Rel P nt bx base St0 w0 σ a w) {d : Nat} (hd : d < nt) (hx : d ∉ bx) : Rel P nt bx base St0 w0 (upd σ d (.tup [])) (a.put (some d) undef) w := by
  obtain ⟨St, B, h, hb, hst, hz⟩ := hr
  have hv : Ow P w St (.tup []) undef [] := ⟨[], rfl, rfl, rfl⟩
  exact ⟨St, upd B d [], h.put hd hx hv.slot List.nodup_nil (by simp) rfl (by intro b e; cases e), hb, hst, hz⟩
/-- operations that write variables' slots too -/
def naOp : Op → Bool
  | .alloc _ | .box _ _ | .assign _ | .makeSlice _ _ _ => true
  | _ => false
theorem okOp_d {d : Nat} (h : okOp nt bx o = true) (hd : o.dst = some d) (hna : naOp o.op = false) : d < nt ∧ d ∉ bx := by
  unfold okOp at h
  rw [hd] at h
  simp only [Bool.and_eq_true, decide_eq_true_eq] at h
  refine ⟨h.1, ?_⟩
  have h2 := h.2
  cases ho : o.op <;> rw [ho] at h2 hna <;> first | (cases hna; done) | (simpa using h2; done)
theorem okOp_b {d : Nat} (h : okOp nt bx o = true) (hd : o.dst = some d) (hna : (match o.op with | .alloc _ | .box _ _ => true | _ => false) = true) : d < nt ∧ d ∈ bx := by
  unfold okOp at h
  rw [hd] at h
  simp only [Bool.and_eq_true, decide_eq_true_eq] at h
  refine ⟨h.1, ?_⟩
  have h2 := h.2
  cases ho : o.op <;> rw [ho] at h2 hna <;> first | (cases hna; done) | (simpa using h2; done)
theorem pureS_sound (htb : TbOk P tb) (hok : okOp nt bx o = true) (hna : naOp o.op = false) (h : pureS tb (liteO ops o) σ K) : StepS P nt bx ops o σ K := by
  simp only [pureS, liteO] at h
  cases hd : o.dst with
  | none => rw [hd] at h; exact h.elim
  | some d =>
    rw [hd] at h
    obtain ⟨hd1, hd2⟩ := okOp_d hok hd hna
    simp only at h
    cases hg : o.guard with
    | none => rw [hg] at h; exact stepS_op hg (fun base St0 w0 => opS_pure htb hd hd1 hd2 h.1 h.2)
    | some g =>
      obtain ⟨j, b⟩ := g
      rw [hg] at h
      simp only [Option.map_some] at h
      cases hq : gD ops j with
      | none => rw [hq] at h; exact h.elim
      | some q =>
        rw [hq] at h
        obtain ⟨h1, h2, h3⟩ := h
        intro base St0 w0 a w Q hr
        rw [guard_of hr hg hq h1]
        cases hb : isB b (σ q) with
        | true =>
          simp only [if_true]
          exact opS_pure htb hd hd1 hd2 (h2 hb).1 (h2 hb).2 a w Q hr
        | false =>
          simp only [Bool.false_eq_true, if_false]
          rw [hd]
          exact ⟨_, h3 hb, rel_skip hr hd1 hd2⟩
theorem callS_sound {f : FuncId} {args : List Operand} {c : Call} (hop : o.op = .call c) (hcal : c.callee = .value (.func f)) (hargs : c.args.toList = args) (hok : okOp nt bx o = true) (h : callS P (liteO ops o) f args σ K) : StepS P nt bx ops o σ K := by
  have hna : naOp o.op = false := by rw [hop]; rfl
  have hop' : o.op = .call { callee := .value (.func f), args := c.args, argTypes := c.argTypes } := by rw [hop, ← hcal]
  simp only [callS, liteO] at h
  cases hg : o.guard with
  | none =>
    rw [hg] at h
    obtain ⟨h1, r, h2, h3⟩ := h
    exact stepS_op hg (fun base St0 w0 => opS_call hop' (by rw [hargs]; exact h1) (by rw [hargs]; exact h2) (fun d hd => okOp_d hok hd hna) h3)
  | some g =>
    obtain ⟨j, b⟩ := g
    rw [hg] at h
    simp only [Option.map_some] at h
    split at h
    · rename_i q d hq hd
      obtain ⟨h1, h2, h3⟩ := h
      obtain ⟨hd1, hd2⟩ := okOp_d hok hd hna
      intro base St0 w0 a w Q hr
      rw [guard_of hr hg hq h1]
      cases hb : isB b (σ q) with
      | true =>
        simp only [if_true]
        obtain ⟨h4, r, h5, h6⟩ := h2 hb
        refine opS_call hop' (by rw [hargs]; exact h4) (by rw [hargs]; exact h5) (fun d hd => okOp_d hok hd hna) ?_ a w Q hr
        rw [hd]; exact h6
      | false =>
        simp only [Bool.false_eq_true, if_false]
        rw [hd]
        exact ⟨_, h3 hb, rel_skip hr hd1 hd2⟩
    · exact h.elim
theorem notBox_of {c : V} (h : notBox c = true) : bxOf c = none := by
  unfold notBox at h
  split at h
  · rename_i e; exact e
  · cases h
theorem okA_d {cns : List Nat} {d : Nat} (hok : okOp nt bx o = true) (hA : okA bx cns (liteO ops o) = true) (hop : (∃ x, o.op = .assign x) ∨ ∃ t x y, o.op = .makeSlice t x y) (hd : o.dst = some d) : d < nt ∧ (cns.contains d = true → d ∈ bx) ∧ (cns.contains d = false → d ∉ bx) := by
  have h1 : d < nt := by
    unfold okOp at hok
    rw [hd] at hok
    simp only [Bool.and_eq_true, decide_eq_true_eq] at hok
    exact hok.1
  have h2 : cns.contains d = bx.contains d := by
    rcases hop with ⟨x, hop⟩ | ⟨t, x, y, hop⟩ <;> simpa [okA, liteO, hop, hd] using hA
  refine ⟨h1, fun h => ?_, fun h hm => ?_⟩
  · rw [h2] at h; simpa using h
  · rw [h2] at h; simp at h; exact h hm
theorem asgS_sound {x : Operand} {d : Nat} (hop : o.op = .assign x ∨ o.op = .move x) (hd : o.dst = some d) (hg : o.guard = none) (hd1 : d < nt) (hd2 : d ∉ bx) (h : asgS tb (liteO ops o) x d σ K) : StepS P nt bx ops o σ K := by
  unfold asgS at h
  split at h
  · split at h
    · exact stepS_op hg (fun base St0 w0 => opS_nil hop hd hd1 hd2 h)
    · exact h.elim
  · rename_i p
    split at h
    · rename_i e n cs hs
      exact stepS_op hg (fun base St0 w0 => opS_takeU hop hs hd hd1 hd2 h)
    · exact stepS_op hg (fun base St0 w0 => opS_take hop hd hd1 hd2 h.1 h.2)
  · exact stepS_op hg (fun base St0 w0 => opS_take hop hd hd1 hd2 h.1 h.2)
theorem asgU_sound {x : Operand} {d : Nat} (hop : o.op = .assign x) (hd : o.dst = some d) (hg : o.guard = none) (hd1 : d < nt) (hd2 : d ∈ bx) (h : asgU x d σ K) : StepS P nt bx ops o σ K := by
  unfold asgU at h
  split at h
  · rename_i p
    split at h
    · rename_i e n cs hs
      exact stepS_op hg (fun base St0 w0 => opS_asgU (.inl hop) hs hd hd1 hd2 (notBox_of h.1) h.2)
    · exact h.elim
  · exact h.elim
theorem evO_sound (htb : TbOk P tb) {cns : List Nat} (hok : okOp nt bx o = true) (hA : okA bx cns (liteO ops o) = true) (h : evO P tb cns (liteO ops o) σ K) : StepS P nt bx ops o σ K := by
  have hgn : (liteO ops o).g = none → o.guard = none := by
    intro e
    simpa [liteO] using e
  have hlo : (liteO ops o).op = o.op := rfl
  have hld : (liteO ops o).dst = o.dst := rfl
  unfold evO at h
  rw [hlo, hld] at h
  split at h
  · rename_i x d ho hd
    obtain ⟨q1, q2, q3⟩ := okA_d hok hA (.inl ⟨x, ho⟩) hd
    split at h
    · rename_i hc; exact asgU_sound ho hd (hgn h.1) q1 (q2 hc) h.2
    · rename_i hc; exact asgS_sound (.inl ho) hd (hgn h.1) q1 (q3 (by simpa using hc)) h.2
  · rename_i x d ho hd
    split at h
    · obtain ⟨hd1, hd2⟩ := okOp_d hok hd (by rw [ho]; rfl)
      exact asgS_sound (.inr ho) hd (hgn h.1) hd1 hd2 h.2
    · exact pureS_sound htb hok (by rw [ho]; rfl) h
  · rename_i t x d ho hd
    split at h
    · obtain ⟨hg, h⟩ := h
      replace hg := hgn hg
      obtain ⟨hd1, hd2⟩ := okOp_d hok hd (by rw [ho]; rfl)
      unfold loadS at h
      split at h
      · rename_i dd s off ht hax
        split at h
        · rename_i cs hs
          exact stepS_op hg (fun base St0 w0 => opS_loadTake htb ho ht hax hs h.1 hd hd1 hd2 h.2)
        · exact h.elim
      · rename_i dd cs off ht hax
        refine stepS_op hg (fun base St0 w0 => opS_pure htb hd hd1 hd2 ?_ ?_)
        · rw [ho]; simp only [pc, ht, hax, loadC', loadC]; exact h.1
        · rw [ho]; simp only [pv, ht, hax, loadV', loadV]; exact h.2
      · exact h.elim
    · exact pureS_sound htb hok (by rw [ho]; rfl) h
  · rename_i s i d ho hd
    obtain ⟨hg, h⟩ := h
    replace hg := hgn hg
    obtain ⟨hd1, hd2⟩ := okOp_d hok hd (by rw [ho]; rfl)
    unfold extS at h
    split at h
    · rename_i cs hs
      split at h
      · rename_i c hc
        exact stepS_op hg (fun base St0 w0 => opS_extract ho hd hd1 hd2 hs hc h.1 h.2)
      · exact h.elim
    · exact h.elim
  · rename_i t x y ho hd
    obtain ⟨hg, h⟩ := h
    replace hg := hgn hg
    unfold stoS at h
    split at h
    · rename_i dd s off ht hax
      split at h
      · rename_i cs hs
        obtain ⟨h1, h2, h3, h4⟩ := h
        exact stepS_op hg (fun base St0 w0 => opS_store htb ho ht hax hs h1 h2 h3 hd h4)
      · exact h.elim
    · exact h.elim
  · rename_i t d ho hd
    obtain ⟨hg, h⟩ := h
    replace hg := hgn hg
    obtain ⟨hd1, hd2⟩ := okOp_b hok hd (by rw [ho])
    unfold allocS at h
    split at h
    · rename_i dd ht
      exact stepS_op hg (fun base St0 w0 => opS_alloc htb ho ht hd hd1 hd2 (notBox_of h.1) h.2)
    · exact h.elim
  · rename_i t x d ho hd
    obtain ⟨hg, h⟩ := h
    replace hg := hgn hg
    obtain ⟨hd1, hd2⟩ := okOp_b hok hd (by rw [ho])
    obtain ⟨h1, h2, h3⟩ := h
    exact stepS_op hg (fun base St0 w0 => opS_box ho hd hd1 hd2 h1 (notBox_of h2) h3)
  · rename_i t ps d ho hd
    obtain ⟨hg, h⟩ := h
    replace hg := hgn hg
    obtain ⟨hd1, hd2⟩ := okOp_d hok hd (by rw [ho]; rfl)
    unfold buildS at h
    split at h
    · rename_i n z fs ht
      split at h
      · rename_i σ' cs hf
        exact stepS_op hg (fun base St0 w0 => opS_build htb ho ht hf hd hd1 hd2 h)
      · exact h.elim
    · exact h.elim
  · rename_i t n ps d ho hd
    obtain ⟨hg, h⟩ := h
    replace hg := hgn hg
    obtain ⟨hd1, hd2⟩ := okOp_d hok hd (by rw [ho]; rfl)
    unfold bslS at h
    split at h
    · rename_i e es eb ez ht
      split at h
      · rename_i σ' cs hf
        obtain ⟨h1, h2, h3⟩ := h
        exact stepS_op hg (fun base St0 w0 => opS_buildSlice htb ho ht h1 hf h2 hd hd1 hd2 h3)
      · exact h.elim
    · exact h.elim
  · rename_i t x y d ho hd
    obtain ⟨hd1, hd3, hd4⟩ := okA_d hok hA (.inr ⟨t, x, y, ho⟩) hd
    split at h
    · rename_i hc
      have hd2 := hd3 hc
      obtain ⟨hg, h⟩ := h
      replace hg := hgn hg
      unfold makeU at h
      split at h
      · rename_i e es eb ez k n k' m ht hx hy
        obtain ⟨h0, rfl, h2, h4, h3⟩ := h
        obtain ⟨n, rfl⟩ := Int.eq_ofNat_of_zero_le h0
        exact stepS_op hg (fun base St0 w0 => opS_makeU htb ho ht hx hy (by simpa using h2) hd hd1 hd2 (notBox_of h4) (by simpa using h3))
      · exact h.elim
    · rename_i hc
      have hd2 := hd4 (by simpa using hc)
      obtain ⟨hg, h⟩ := h
      replace hg := hgn hg
      unfold makeS at h
      split at h
      · rename_i e es eb ez k n k' m ht hx hy
        obtain ⟨h0, rfl, h2, h3⟩ := h
        obtain ⟨n, rfl⟩ := Int.eq_ofNat_of_zero_le h0
        exact stepS_op hg (fun base St0 w0 => opS_make htb ho ht hx hy (by simpa using h2) hd hd1 hd2 (by simpa using h3))
      · exact h.elim
  · rename_i d c ho
    unfold callS' at h
    split at h
    · rename_i f hcal
      exact callS_sound ho hcal rfl hok h
    · rename_i d' x y t t' hcal hd hargs hts
      obtain ⟨hg, h⟩ := h
      replace hg := hgn hg
      obtain ⟨hd1, hd2⟩ := okOp_d hok hd (by rw [ho]; rfl)
      unfold appS at h
      split at h
      · rename_i e es eb ez e' n cs m ds ht hx hy
        obtain ⟨rfl, rfl, h1, h2, h3⟩ := h
        refine stepS_op hg (fun base St0 w0 => opS_append htb ?_ ht hx hy h1 h2 hd hd1 hd2 h3)
        rw [ho]
        have e1 : c.args = #[x, y] := by rw [← Array.toArray_toList (xs := c.args), hargs]
        have e2 : c.argTypes = #[t', t'] := by rw [← Array.toArray_toList (xs := c.argTypes), hts]
        rw [← hcal, ← e1, ← e2]
      · exact h.elim
    · exact pureS_sound htb hok (by rw [ho]; rfl) h
  · cases hd : o.dst with
    | none => simp only [pureS, liteO] at h; rw [hd] at h; exact h.elim
    | some d => exact pureS_sound htb hok (by clear hA h; cases ho : o.op <;> first | rfl | (exfalso; simp_all; done) | (exfalso; rename_i hx _ _ _; exact hx _ _ _ _ ho hd) | (exfalso; simp_all; rename_i hx _; exact hx _ _ _ _ rfl rfl rfl rfl)) h
end
end Go.Proofs.Ytkmkbpphdalgoaa
