/-
  The pure machine, part 4: an operation that only computes and reads: what it gives, what it asks, and that its run is so. Over no program; no conditions.
-/
import Derived.Test.YtkmkbpphdalgoaaPop
namespace Go.Proofs.Ytkmkbpphdalgoaa
open Go.RowKit
set_option linter.unusedVariables false

def pvCall (σ : PS) : Callee → List Operand → V
  | .builtin .len, [x] => lenS σ (opV σ x)
  | .builtin .max, [x, y] => mxV true (opV σ x) (opV σ y)
  | .builtin .min, [x, y] => mxV false (opV σ x) (opV σ y)
  | _, _ => .undef
def pcCall (tb : Tb) (σ : PS) : Callee → List Operand → List TypeId → Prop
  | .builtin .len, [x], [t] => lenSC (tb t) σ (opV σ x)
  | .builtin .max, [x, y], _ => mxC (opV σ x) (opV σ y)
  | .builtin .min, [x, y], _ => mxC (opV σ x) (opV σ y)
  | _, _, _ => False
def pickV (σ : PS) (a b : Operand) : V → V
  | .bool q => if q then dg (opV σ a) else dg (opV σ b)
  | _ => .undef
def pickC (σ : PS) (a b : Operand) : V → Prop
  | .bool q => if q then (opV σ a).isVal = true else (opV σ b).isVal = true
  | _ => False
def faV' (d : Option TyD) (f : Nat) (x : V) : V := match d with
  | some (.st _ _ fs) => match fs[f]? with
    | some (off, _) => faV off x
    | none => .undef
  | _ => .undef
def faC' (d : Option TyD) (f : Nat) (σ : PS) (x : V) : Prop := match d with
  | some (.st _ _ fs) => match fs[f]? with
    | some _ => faC σ x
    | none => False
  | _ => False
def iaV' (d : Option TyD) (σ : PS) (x i : V) : V := match d with
  | some (.sl _ es _ _) => iaS σ es x i
  | _ => .undef
def iaC' (d : Option TyD) (σ : PS) (x i : V) : Prop := match d with
  | some (.sl ..) => iaSC σ x i
  | _ => False
def loadV' (d : Option TyD) (σ : PS) (x : V) : V := match d with
  | some d => loadV d σ x
  | none => .undef
def loadC' (d : Option TyD) (σ : PS) (x : V) : Prop := match d with
  | some d => loadC d σ x
  | none => False
/-- what an operation gives -/
def pv (tb : Tb) (σ : PS) : Op → V
  | .move x => mvV σ x
  | .pick c a b => pickV σ a b (opV σ c)
  | .binOp op _ x y _ => binV op (opV σ x) (opV σ y)
  | .unOp op _ x => unV op (opV σ x)
  | .convert _ d x => convV (tb d) (opV σ x)
  | .load t x => loadV' (tb t) σ (adV σ x)
  | .fieldAddr t x f => faV' (tb t) f (adV σ x)
  | .indexAddr t x i => iaV' (tb t) σ (opV σ x) (opV σ i)
  | .index _ x i => sixV (opV σ x) (opV σ i)
  | .slice t x lo hi none => partV (tb t) (opV σ x) (lo.map (opV σ)) (hi.map (opV σ))
  | .call c => pvCall σ c.callee c.args.toList
  | _ => .undef
/-- what it asks -/
def pc (tb : Tb) (σ : PS) : Op → Prop
  | .move x => mvC σ x
  | .pick c a b => pickC σ a b (opV σ c)
  | .binOp op t x y _ => binC (tb t) op (opV σ x) (opV σ y)
  | .unOp op _ x => unC op (opV σ x)
  | .convert s d x => convC tb s d (opV σ x)
  | .load t x => loadC' (tb t) σ (adV σ x)
  | .fieldAddr t x f => faC' (tb t) f σ (adV σ x)
  | .indexAddr t x i => iaC' (tb t) σ (opV σ x) (opV σ i)
  | .index t x i => tb t = some (.sc (.str [])) ∧ sixC (opV σ x) (opV σ i)
  | .slice t x lo hi none => partC (tb t) (opV σ x) (lo.map (opV σ)) (hi.map (opV σ))
  | .call c => pcCall tb σ c.callee c.args.toList c.argTypes.toList
  | _ => False

section
variable {P : Program} {nt base : Nat} {bx : List Nat} {St : Nat → Nat → Prop} {B : Nat → List Nat} {hand : List Nat} {σ : PS} {a : Act} {w : World}
theorem cV_slot (v : Value) : SlotR P w St (tm a) (cV v) v [] := by
  unfold cV
  split
  · exact mk_int _ _
  · exact mk_bool _
  · split
    · rename_i s h; exact ⟨rfl, by cases s; simp, lim_max h⟩
    · rfl
  · exact ⟨rfl, Nat.zero_le _, none, 0, rfl, Nat.le_refl _, fun h => absurd h (by omega), fun _ => rfl⟩
  · rfl
theorem opnd (h : HSim P nt bx base St B hand σ a w) (x : Operand) : ∃ b, SlotR P w St (tm a) (opV σ x) (a.eval x) b := by
  cases x with
  | tmp s => exact ⟨_, h.slot s⟩
  | const v => exact ⟨[], cV_slot v⟩
  | global g => exact ⟨[], rfl⟩
  | func f => exact ⟨[], rfl⟩
theorem Ow.notBox {c : V} {v : Value} {bs : List Nat} (h : Ow P w St c v bs) : bxOf c = none ∧ refOf c = none := by
  cases c <;> first | exact ⟨rfl, rfl⟩ | exact h.elim
theorem Ow.noRef {c : V} {v : Value} {bs : List Nat} (h : Ow P w St c v bs) {p : Nat → Prop} : ∀ b, refOf c = some b → p b := fun b e => by rw [h.notBox.2] at e; cases e
/-- what an operation may give -/
def Gives (P : Program) (w : World) (St : Nat → Nat → Prop) (σ : PS) (t : Nat → Value) (c : V) (v : Value) (bs : List Nat) : Prop :=
  SlotR P w St t c v bs ∧ bxOf c = none ∧ ∀ b, refOf c = some b → ∃ cs, bxOf (σ b) = some cs
theorem Gives.ow {t : Nat → Value} {c : V} {v : Value} {bs : List Nat} (h : Ow P w St c v bs) : Gives P w St σ t c v bs := ⟨h.slot, h.notBox.1, h.noRef⟩
theorem Gives.of {t : Nat → Value} {c : V} {v : Value} {bs : List Nat} (h : SlotR P w St t c v bs) (hc : c.isVal = true) : Gives P w St σ t c v bs := .ow (h.ow hc)
theorem dg_isVal {c : V} (h : c.isVal = true) : (dg c).isVal = true := by
  cases c with
  | tup cs =>
    simp only [dg, V.isVal, List.all_map, List.all_eq_true] at *
    intro x hx
    have := h x hx
    cases x <;> first | rfl | cases this
  | _ => first | rfl | cases h
theorem binV_val {op : BinOp} {d : Option TyD} {c1 c2 : V} (h : binC d op c1 c2) : (binV op c1 c2).isVal = true := by
  unfold binC at h
  split at h <;> first | rfl | exact h.elim | skip
  cases op <;> first | rfl | (exfalso; simp_all; done)
theorem unV_val {op : UnOp} {c : V} (h : unC op c) : (unV op c).isVal = true := by
  unfold unC at h
  split at h <;> first | rfl | exact h.elim
theorem partV_val {d : Option TyD} {c : V} {lo hi : Option V} (h : partC d c lo hi) : (partV d c lo hi).isVal = true := by
  unfold partC at h
  split at h
  · split at h
    · rename_i hl hh; simp only [partV, hl, hh]; rfl
    · exact h.elim
  · cases hsl : slOf c with
    | none => rw [hsl] at h; exact h.elim
    | some z =>
      obtain ⟨n, cs⟩ := z
      rw [hsl] at h
      simp only at h
      split at h
      · rename_i l q hl hh
        cases c <;> simp only [slOf, Option.some.injEq, Prod.mk.injEq, reduceCtorEq] at hsl <;> obtain ⟨rfl, rfl⟩ := hsl <;> simp [partV, slOf, hl, hh, V.isVal, V.isArg, V.isCell]
      · exact h.elim
  · exact h.elim
theorem lenV_val {d : Option TyD} {c : V} (h : lenC d c) : (lenV c).isVal = true := by
  cases c <;> first | rfl | exact h.elim
theorem mxV_val {b : Bool} {c d : V} (h : mxC c d) : (mxV b c d).isVal = true := by
  unfold mxC at h
  split at h <;> first | rfl | exact h.elim
theorem pure_run {tb : Tb} (htb : TbOk P tb) (h : HSim P nt bx base St B hand σ a w) (o : Oper) (hc : pc tb σ o.op) :
    ∃ v, (execOp a.eval o).run P w = .ok (.value v) w ∧ Gives P w St σ (tm a) (pv tb σ o.op) v [] := by
  cases ho : o.op with
  | move x =>
    rw [ho] at hc
    obtain ⟨b, hx⟩ := opnd h x
    refine ⟨a.eval x, by simp [execOp, ho], ?_⟩
    have hval : (opV σ x).isVal = true → Gives P w St σ (tm a) (dg (opV σ x)) (a.eval x) [] := fun hc => .ow ((hx.ow hc).deg hc)
    simp only [pc, pv] at *
    cases x with
    | tmp s =>
      cases hs : σ s with
      | uni e n cs =>
        simp only [mvV, hs]
        exact ⟨⟨rfl, rfl⟩, rfl, fun b e => by simp only [refOf, Option.some.injEq] at e; subst e; exact ⟨cs, by rw [hs]; rfl⟩⟩
      | same q =>
        simp only [mvV, hs]
        have h1 := h.slot s
        rw [hs] at h1
        exact ⟨⟨rfl, h1.2⟩, rfl, fun b e => h.crefs s b (by rw [hs]; exact e)⟩
      | _ =>
        simp only [mvV, mvC, hs] at hc ⊢
        have := hval (by show (σ s).isVal = true; rw [hs]; exact hc)
        rw [show opV σ (.tmp s) = σ s from rfl, hs] at this
        exact this
    | const v => exact hval hc
    | global g => exact hval hc
    | func f => exact hval hc
  | pick c x y =>
    rw [ho] at hc
    simp only [pc, pv] at *
    obtain ⟨b, hcc⟩ := opnd h c
    obtain ⟨b1, hx⟩ := opnd h x
    obtain ⟨b2, hy⟩ := opnd h y
    cases hq : opV σ c with
    | bool q =>
      rw [hq] at hc hcc
      have e := slot_bool hcc
      cases q with
      | true => exact ⟨a.eval x, by simp [execOp, ho, e, asBool], .ow ((hx.ow hc).deg hc)⟩
      | false => exact ⟨a.eval y, by simp [execOp, ho, e, asBool], .ow ((hy.ow hc).deg hc)⟩
    | _ => rw [hq] at hc; exact hc.elim
  | binOp op t x y t' =>
    rw [ho] at hc
    obtain ⟨b1, hx⟩ := opnd h x
    obtain ⟨b2, hy⟩ := opnd h y
    obtain ⟨v, hr, hv⟩ := bin_run (ty := t) (x := x) (y := y) op hx hy (fun d e => htb _ _ e) hc
    refine ⟨v, ?_, .of hv (binV_val hc)⟩
    simp only [execOp, ho, Sem.run_bind, hr, Result.andThen_ok, Sem.run_pure]
  | unOp op t x =>
    rw [ho] at hc
    obtain ⟨b1, hx⟩ := opnd h x
    obtain ⟨v, hr, hv⟩ := un_run op hx hc
    refine ⟨v, ?_, .of hv (unV_val hc)⟩
    simp only [execOp, ho, Sem.run_bind, hr, Result.andThen_ok, Sem.run_pure]
  | convert s d x =>
    rw [ho] at hc
    obtain ⟨b1, hx⟩ := opnd h x
    obtain ⟨v, hr, hv⟩ := conv_run htb hx hc
    refine ⟨v, ?_, .of hv ?_⟩
    · simp only [execOp, ho, Sem.run_bind, hr, Result.andThen_ok, Sem.run_pure]
    · simp only [pc, pv, convC] at hc ⊢
      split at hc
      · rename_i hs hd hx; rw [hd, hx]; rfl
      · rename_i hs hd
        split at hc
        · rename_i hsl _; rw [hd, convV_sl hsl]; rfl
        · exact hc.elim
      · exact hc.elim
  | load t x =>
    rw [ho] at hc
    simp only [pc, pv] at *
    cases ht : tb t with
    | none => rw [ht] at hc; exact hc.elim
    | some d =>
      rw [ht] at hc
      obtain ⟨v, hr, hv⟩ := load_run h (htb _ _ ht) (x := x) hc
      refine ⟨v, ?_, .ow hv⟩
      simp only [execOp, ho, Sem.run_bind, hr, Result.andThen_ok, Sem.run_pure]
  | fieldAddr t x f =>
    rw [ho] at hc
    simp only [pc, pv] at *
    cases ht : tb t with
    | none => rw [ht] at hc; exact hc.elim
    | some d =>
      rw [ht] at hc
      cases d with
      | sc z => exact hc.elim
      | sl e es eb ez => exact hc.elim
      | st n z fs =>
        simp only [faC', faV'] at *
        cases hf : fs[f]? with
        | none => rw [hf] at hc; exact hc.elim
        | some q =>
          obtain ⟨off, sz⟩ := q
          rw [hf] at hc
          simp only at *
          obtain ⟨v, hr, hv⟩ := field_run h (htb _ _ ht) hf hc
          refine ⟨v, ?_, hv, ?_, ?_⟩
          · simp only [execOp, ho, Sem.run_bind, hr, Result.andThen_ok, Sem.run_pure]
          · cases hx : adV σ x <;> rfl
          · intro b e
            cases hx : adV σ x with
            | cref s o' =>
              rw [hx] at e hc
              simp only [faV, refOf, Option.some.injEq] at e
              subst e; exact hc
            | _ => rw [hx] at e; cases e
  | indexAddr t x i =>
    rw [ho] at hc
    simp only [pc, pv] at *
    obtain ⟨b1, hx⟩ := opnd h x
    obtain ⟨b2, hi⟩ := opnd h i
    cases ht : tb t with
    | none => rw [ht] at hc; exact hc.elim
    | some d =>
      rw [ht] at hc
      cases d with
      | sc z => exact hc.elim
      | st n z fs => exact hc.elim
      | sl e es eb ez =>
        simp only [iaC', iaV'] at *
        by_cases hsm : ∃ q, opV σ x = .same q
        · obtain ⟨q, hq⟩ := hsm
          rw [hq] at hc ⊢
          simp only [iaSC, iaS] at hc ⊢
          cases x with
          | tmp p =>
            have hp : σ p = .same q := hq
            split at hc
            · rename_i e' n cs ix hs hix
              obtain ⟨v, hr, hv⟩ := indexS_run h (htb _ _ ht) hp hs hix hi hc
              refine ⟨v, ?_, hv, rfl, fun b e => ?_⟩
              · have e1 : a.eval (.tmp p) = tm a p := rfl
                simp only [execOp, ho, Sem.run_bind, e1, hr, Result.andThen_ok, Sem.run_pure]
              · simp only [refOf, Option.some.injEq] at e; subst e; exact ⟨cs, by rw [hs]; rfl⟩
            · exact hc.elim
          | const v => exfalso; simp only [opV, cV] at hq; split at hq <;> (try split at hq) <;> cases hq
          | global g => cases hq
          | func f => cases hq
        have h1 : iaSC σ (opV σ x) (opV σ i) = iaC (opV σ x) (opV σ i) := by
          cases hx' : opV σ x <;> first | rfl | exact absurd ⟨_, hx'⟩ hsm
        have h2 : iaS σ es (opV σ x) (opV σ i) = iaV es (opV σ x) (opV σ i) := by
          cases hx' : opV σ x <;> first | rfl | exact absurd ⟨_, hx'⟩ hsm
        rw [h1] at hc
        rw [h2]
        obtain ⟨v, hr, hv⟩ := indexA_run (htb _ _ ht) hx hi hc
        have hia : ∃ cs n, iaV es (opV σ x) (opV σ i) = .adr cs n := by
          unfold iaC at hc
          split at hc
          · rename_i n cs ix hs hi'
            exact ⟨cs, ix.toNat * es, by simp only [iaV, hs, hi']⟩
          · exact hc.elim
        refine ⟨v, ?_, hv, ?_, ?_⟩
        · simp only [execOp, ho, Sem.run_bind, hr, Result.andThen_ok, Sem.run_pure]
        · obtain ⟨_, _, e'⟩ := hia; rw [e']; rfl
        · intro b e; obtain ⟨_, _, e'⟩ := hia; rw [e'] at e; cases e
  | index t x i =>
    rw [ho] at hc
    simp only [pc, pv] at *
    obtain ⟨b1, hx⟩ := opnd h x
    obtain ⟨b2, hi⟩ := opnd h i
    obtain ⟨v, hr, hv⟩ := six_run (htb _ _ hc.1) hx hi hc.2
    refine ⟨v, ?_, .of hv ?_⟩
    · simp only [execOp, ho, Sem.run_bind, hr, Result.andThen_ok, Sem.run_pure]
    · have hc2 := hc.2
      unfold sixC at hc2
      split at hc2
      · rename_i s j hs hi'
        have : j.toNat < s.length := by omega
        simp only [sixV, hs, hi', List.getElem?_eq_getElem this]; rfl
      · exact hc2.elim
  | slice t x lo hi mx =>
    rw [ho] at hc
    cases mx with
    | some m => exact hc.elim
    | none =>
      simp only [pc, pv] at *
      obtain ⟨b1, hx⟩ := opnd h x
      obtain ⟨v, hr, hv⟩ := part_run (ty := t) (d := tb t) (fun d e => htb _ _ e) hx (lo := lo.map (opV σ)) (hi := hi.map (opV σ)) (vl := lo.map a.eval) (vh := hi.map a.eval)
        (fun c e => by
          obtain ⟨y, rfl, rfl⟩ := Option.map_eq_some_iff.1 e
          obtain ⟨b, hy⟩ := opnd h y
          exact ⟨_, b, rfl, hy⟩) (fun e => by cases lo <;> first | rfl | cases e)
        (fun c e => by
          obtain ⟨y, rfl, rfl⟩ := Option.map_eq_some_iff.1 e
          obtain ⟨b, hy⟩ := opnd h y
          exact ⟨_, b, rfl, hy⟩) (fun e => by cases hi <;> first | rfl | cases e) hc
      refine ⟨v, ?_, .of hv ?_⟩
      · simp only [execOp, ho, Sem.run_bind, Option.map_none, hr, Result.andThen_ok, Sem.run_pure]
      · exact partV_val hc
  | call c =>
    rw [ho] at hc
    simp only [pc, pv] at *
    obtain ⟨callee, args, ts⟩ := c
    simp only at *
    obtain ⟨args, rfl⟩ : ∃ l : List Operand, args = l.toArray := ⟨args.toList, by simp⟩
    obtain ⟨ts, rfl⟩ : ∃ l : List TypeId, ts = l.toArray := ⟨ts.toList, by simp⟩
    change pcCall tb σ callee args ts at hc
    change ∃ v, _ ∧ Gives P w St σ (tm a) (pvCall σ callee args) v []
    unfold pcCall at hc
    split at hc
    · rename_i x t
      obtain ⟨b1, hx⟩ := opnd h x
      by_cases hsm : ∃ q, opV σ x = .same q
      · obtain ⟨q, hq⟩ := hsm
        simp only [pvCall]
        rw [hq] at hc ⊢
        simp only [lenSC, lenS] at hc ⊢
        cases x with
        | tmp p =>
          have hp : σ p = .same q := hq
          split at hc
          · rename_i e' n cs e es eb ez hs ht
            obtain ⟨v, hr, hv⟩ := lenS_run (rt := o.type) h (htb _ _ ht) hp hs
            simp only [hs]
            refine ⟨v, ?_, .of hv rfl⟩
            have e1 : a.eval (.tmp p) = tm a p := rfl
            simp only [execOp, ho, resolve, invoke, builtin, Sem.run_bind, Sem.run_pure, Result.andThen_ok, List.map_toArray, List.map_cons, List.map_nil, e1, hr]
          · exact hc.elim
        | const v => exfalso; simp only [opV, cV] at hq; split at hq <;> (try split at hq) <;> cases hq
        | global g => cases hq
        | func f => cases hq
      have h1 : lenSC (tb t) σ (opV σ x) = lenC (tb t) (opV σ x) := by
        cases hx' : opV σ x <;> first | rfl | exact absurd ⟨_, hx'⟩ hsm
      have h2 : lenS σ (opV σ x) = lenV (opV σ x) := by
        cases hx' : opV σ x <;> first | rfl | exact absurd ⟨_, hx'⟩ hsm
      rw [h1] at hc
      simp only [pvCall, h2]
      obtain ⟨v, hr, hv⟩ := len_run (rt := o.type) (fun d e => htb _ _ e) hx hc
      refine ⟨v, ?_, .of hv ?_⟩
      · simp only [execOp, ho, resolve, invoke, builtin, Sem.run_bind, Sem.run_pure, Result.andThen_ok, List.map_toArray, List.map_cons, List.map_nil, hr]
      · exact lenV_val hc
    · rename_i x y
      obtain ⟨b1, hx⟩ := opnd h x
      obtain ⟨b2, hy⟩ := opnd h y
      obtain ⟨v, hr, hv⟩ := max_run (rt := o.type) (ts := ts.toArray) hx hy hc
      refine ⟨v, ?_, .of hv ?_⟩
      · simp only [execOp, ho, resolve, invoke, builtin, Sem.run_bind, Sem.run_pure, Result.andThen_ok, List.map_toArray, List.map_cons, List.map_nil, hr]
      · simp only [pvCall]; exact mxV_val hc
    · rename_i x y
      obtain ⟨b1, hx⟩ := opnd h x
      obtain ⟨b2, hy⟩ := opnd h y
      obtain ⟨v, hr, hv⟩ := min_run (rt := o.type) (ts := ts.toArray) hx hy hc
      refine ⟨v, ?_, .of hv ?_⟩
      · simp only [execOp, ho, resolve, invoke, builtin, Sem.run_bind, Sem.run_pure, Result.andThen_ok, List.map_toArray, List.map_cons, List.map_nil, hr]
      · simp only [pvCall]; exact mxV_val hc
    · exact hc.elim
  | _ => rw [ho] at hc; exact hc.elim
end
end Go.Proofs.Ytkmkbpphdalgoaa
