/-
  A machine on data, part 2: code, the rules of the printed walks, loops. Over no program; no conditions.
-/
import Derived.Test.YtmioifafgbjjhaaKa
namespace Go.Proofs.Ytmioifafgbjjhaa
open Go.RowKit
set_option linter.unusedVariables false

def evS (P : Program) (tb : Tb) (cns : List Nat) : List LO → PS → (PS → Prop) → Prop
  | [], σ, K => K σ
  | o :: os, σ, K => evO P tb cns o σ (fun σ' => evS P tb cns os σ' K)
theorem grd_mono {K K' : PS → Prop} (hk : ∀ σ, K σ → K' σ) {o : LO} {d : Nat} {σ : PS} {X X' : Prop} (hX : X → X') (h : grdS o d σ K X) : grdS o d σ K' X' := by
  unfold grdS at *
  split at h
  · exact hX h
  · exact h
  · exact ⟨h.1, fun e => hX (h.2.1 e), fun e => hk _ (h.2.2 e)⟩
theorem evO_mono {P : Program} {tb : Tb} {cns : List Nat} {K K' : PS → Prop} (hk : ∀ σ, K σ → K' σ) {o : LO} {σ : PS} (h : evO P tb cns o σ K) : evO P tb cns o σ K' := by
  have hp : ∀ {o : LO} {σ : PS}, pureS tb o σ K → pureS tb o σ K' := by
    intro o σ h
    unfold pureS at *
    split at h
    · exact h
    · split at h
      · exact ⟨h.1, hk _ h.2⟩
      · exact h
      · exact ⟨h.1, fun e => ⟨(h.2.1 e).1, hk _ (h.2.1 e).2⟩, fun e => hk _ (h.2.2 e)⟩
  have hc : ∀ {o : LO} {f : FuncId} {args : List Operand} {σ : PS}, callS P o f args σ K → callS P o f args σ K' := by
    intro o f args σ h
    unfold callS at *
    split at h
    · exact ⟨h.1, h.2.choose, h.2.choose_spec.1, hk _ h.2.choose_spec.2⟩
    · split at h
      · exact ⟨h.1, fun e => ⟨(h.2.1 e).1, (h.2.1 e).2.choose, (h.2.1 e).2.choose_spec.1, hk _ (h.2.1 e).2.choose_spec.2⟩, fun e => hk _ (h.2.2 e)⟩
      · exact h
  have ha : ∀ {o : LO} {x : Operand} {d : Nat} {σ : PS}, asgS tb o x d σ K → asgS tb o x d σ K' := by
    intro o x d σ h
    unfold asgS at *
    split at h
    · split at h
      · exact hk _ h
      · exact h
    · split at h
      · exact hk _ h
      · exact ⟨h.1, hk _ h.2⟩
    · exact ⟨h.1, hk _ h.2⟩
  have hu : ∀ {x : Operand} {d : Nat} {σ : PS}, asgU x d σ K → asgU x d σ K' := by
    intro x d σ h
    unfold asgU at *
    split at h
    · split at h
      · exact ⟨h.1, hk _ h.2⟩
      · exact h
    · exact h
  unfold evO at *
  split at h
  · split at h
    · rename_i hc; rw [if_pos hc]; exact ⟨h.1, hu h.2⟩
    · rename_i hc; rw [if_neg hc]; exact ⟨h.1, ha h.2⟩
  · split at h
    · rename_i hc; rw [if_pos hc]; exact ⟨h.1, ha h.2⟩
    · rename_i hc; rw [if_neg hc]; exact hp h
  · split at h
    · rename_i hc
      rw [if_pos hc]
      refine ⟨h.1, ?_⟩
      have h2 := h.2
      unfold loadS at *
      split at h2
      · split at h2
        · exact ⟨h2.1, hk _ h2.2⟩
        · exact h2
      · exact ⟨h2.1, hk _ h2.2⟩
      · exact h2
    · rename_i hc; rw [if_neg hc]; exact hp h
  · refine ⟨h.1, ?_⟩
    have h2 := h.2
    unfold extS at *
    split at h2
    · split at h2
      · exact ⟨h2.1, hk _ h2.2⟩
      · exact h2
    · exact h2
  · refine ⟨h.1, ?_⟩
    have h2 := h.2
    unfold stoS at *
    split at h2
    · split at h2
      · exact ⟨h2.1, h2.2.1, h2.2.2.1, hk _ h2.2.2.2⟩
      · exact h2
    · exact h2
  · refine ⟨h.1, ?_⟩
    have h2 := h.2
    unfold allocS at *
    split at h2
    · exact ⟨h2.1, hk _ h2.2⟩
    · exact h2
  · exact ⟨h.1, h.2.1, h.2.2.1, hk _ h.2.2.2⟩
  · refine grd_mono hk (fun h2 => ?_) h
    unfold buildS at *
    split at h2
    · split at h2
      · exact hk _ h2
      · exact h2
    · exact h2
  · refine grd_mono hk (fun h2 => ?_) h
    unfold bslS at *
    split at h2
    · split at h2
      · exact ⟨h2.1, h2.2.1, hk _ h2.2.2⟩
      · exact h2
    · exact h2
  · split at h
    · rename_i hc
      rw [if_pos hc]
      refine ⟨h.1, ?_⟩
      have h2 := h.2
      unfold makeU at *
      split at h2
      · exact ⟨h2.1, h2.2.1, h2.2.2.1, h2.2.2.2.1, hk _ h2.2.2.2.2⟩
      · exact h2
    · rename_i hc
      rw [if_neg hc]
      refine ⟨h.1, ?_⟩
      have h2 := h.2
      unfold makeS at *
      split at h2
      · exact ⟨h2.1, h2.2.1, h2.2.2.1, hk _ h2.2.2.2⟩
      · exact h2
  · unfold callS' at *
    split at h
    · split at h
      · exact hc h
      · exact h
    · refine grd_mono hk (fun h2 => ?_) h
      unfold appS at *
      split at h2
      · exact ⟨h2.1, h2.2.1, h2.2.2.1, h2.2.2.2.1, h2.2.2.2.2.imp (hk _) (fun h => ⟨hk _ h.1, h.2⟩)⟩
      · exact h2
    · exact hp h
  · refine grd_mono hk (fun h2 => ?_) h
    unfold fldS at *
    split at h2
    · split at h2
      · exact hk _ h2
      · exact h2
    · exact h2
  · exact hp h
theorem evS_mono {P : Program} {tb : Tb} {cns : List Nat} {K K' : PS → Prop} (hk : ∀ σ, K σ → K' σ) : ∀ {os : List LO} {σ : PS}, evS P tb cns os σ K → evS P tb cns os σ K'
  | [], σ, h => hk σ h
  | o :: os, σ, h => evO_mono (fun σ' h' => evS_mono hk h') h
def CodeS (P : Program) (nt : Nat) (bx : List Nat) (c : Code) (σ : PS) (Q : Exit → PS → Prop) : Prop :=
  ∀ base St0 w0 a w, Rel P nt bx base St0 w0 σ a w → c.wp P (fun e a' w' => ∃ σ', Q e σ' ∧ Rel P nt bx base St0 w0 σ' a' w') a w
def thenQ (K : PS → Prop) (Q : Exit → PS → Prop) : Exit → PS → Prop
  | .normal, σ => K σ
  | e, σ => Q e σ
def blockQ (id : Nat) (Q : Exit → PS → Prop) : Exit → PS → Prop
  | .exit id', σ => if id' = id then Q .normal σ else Q (.exit id') σ
  | e, σ => Q e σ
section
variable {P : Program} {nt : Nat} {bx : List Nat} {σ : PS} {Q : Exit → PS → Prop} {tb : Tb}
theorem evS_sound (htb : TbOk P tb) {cns : List Nat} {ops : Array Oper} {base : Nat} {St0 : Nat → Nat → Prop} {w0 : World} {R : Exit → Act → World → Prop} {K : PS → Prop} (hR : ∀ σ' a' w', K σ' → Rel P nt bx base St0 w0 σ' a' w' → R .normal a' w') :
    ∀ (os : List Oper) (σ : PS) (a : Act) (w : World), os.all (okOp nt bx) = true → (os.map (liteO ops)).all (okA bx cns) = true → evS P tb cns (os.map (liteO ops)) σ K → Rel P nt bx base St0 w0 σ a w → wpList P ops R os a w
  | [], σ, a, w, _, _, h, hr => hR σ a w h hr
  | o :: os, σ, a, w, hok, hA, h, hr => by
    simp only [List.all_cons, List.map_cons, Bool.and_eq_true] at hok hA
    have hst := evO_sound htb hok.1 hA.1 h base St0 w0 a w R hr
    unfold wpList
    split
    · rename_i hw
      rw [if_pos hw] at hst
      exact .inl (upon_mono (fun a' w' ⟨σ', h1, h2⟩ => evS_sound htb hR os σ' a' w' hok.2 hA.2 h1 h2) _ hst)
    · rename_i hw
      rw [if_neg hw] at hst
      obtain ⟨σ', h1, h2⟩ := hst
      exact evS_sound htb hR os σ' _ w hok.2 hA.2 h1 h2
theorem codeS_region (htb : TbOk P tb) (cns : List Nat) {id : Nat} {ops : Array Oper} (hok : ops.toList.all (okOp nt bx) = true) (hA : (ops.toList.map (liteO ops)).all (okA bx cns) = true) (h : evS P tb cns (ops.toList.map (liteO ops)) σ (Q .normal)) : CodeS P nt bx (.region id ops false) σ Q :=
  fun base St0 w0 a w hr => wp_region_list (evS_sound htb (fun σ' a' w' h1 h2 => ⟨σ', h1, h2⟩) ops.toList σ a w hok hA h hr)
theorem codeS_mono {c : Code} {Q' : Exit → PS → Prop} (h : CodeS P nt bx c σ Q) (hq : ∀ e σ, Q e σ → Q' e σ) : CodeS P nt bx c σ Q' :=
  fun base St0 w0 a w hr => wp_mono (h base St0 w0 a w hr) (fun e a w ⟨σ', h1, h2⟩ => ⟨σ', hq e σ' h1, h2⟩)
theorem codeS_seq {x y : Code} (h : CodeS P nt bx x σ (thenQ (fun σ' => CodeS P nt bx y σ' Q) Q)) : CodeS P nt bx (.seq x y) σ Q := by
  intro base St0 w0 a w hr
  refine wp_seq (wp_mono (h base St0 w0 a w hr) ?_)
  rintro (_ | id | l | _ | c | _) a' w' ⟨σ', h1, h2⟩
  · exact h1 base St0 w0 a' w' h2
  all_goals exact ⟨σ', h1, h2⟩
theorem codeS_skip (h : Q .normal σ) : CodeS P nt bx .skip σ Q := fun base St0 w0 a w hr => wp_skip ⟨σ, h, hr⟩
theorem codeS_exit {id : Nat} (h : Q (.exit id) σ) : CodeS P nt bx (.exit id) σ Q := fun base St0 w0 a w hr => wp_exit ⟨σ, h, hr⟩
theorem codeS_ret (h : Q .ret σ) : CodeS P nt bx .ret σ Q := fun base St0 w0 a w hr => wp_ret ⟨σ, h, hr⟩
theorem codeS_block {id : Nat} {c : Code} (h : CodeS P nt bx c σ (blockQ id Q)) : CodeS P nt bx (.block id c) σ Q := by
  intro base St0 w0 a w hr
  refine wp_block (wp_mono (h base St0 w0 a w hr) ?_)
  rintro (_ | id' | l | _ | c | _) a' w' ⟨σ', h1, h2⟩
  · exact ⟨σ', h1, h2⟩
  · simp only [blockQ] at h1
    simp only [Exit.inBlock]
    split at h1
    · rename_i e; rw [if_pos e]; exact ⟨σ', h1, h2⟩
    · rename_i e; rw [if_neg e]; exact ⟨σ', h1, h2⟩
  all_goals exact ⟨σ', h1, h2⟩
theorem codeS_cond {c : Operand} {x y : Code} {b : Bool} (hc : opV σ c = .bool b) (ht : b = true → CodeS P nt bx x σ Q) (hf : b = false → CodeS P nt bx y σ Q) : CodeS P nt bx (.cond c x y) σ Q := by
  intro base St0 w0 a w hr
  have he : a.eval c = .bool b := by
    obtain ⟨St, B, h, _⟩ := hr
    obtain ⟨q, hs⟩ := opnd h c
    rw [hc] at hs
    exact slot_bool hs
  exact wp_cond_split he (fun e => ht e base St0 w0 a w hr) (fun e => hf e base St0 w0 a w hr)
end

section
variable {P : Program} {nt : Nat} {bx : List Nat} {σ : PS} {Q : Exit → PS → Prop} {tb : Tb}
end
inductive LC where
  | skip
  | rgn (cns : List Nat) (ops : List LO)
  | drw (cns : List Nat) (fps : List (List Nat × List Nat)) (es : List (List Nat)) (ops : List LO)
  | seq (a b : LC)
  | cond (c : Operand) (a b : LC)
  | blk (id : Nat) (a : LC)
  | loop (D : List Nat) (a : LC)
  | exit (id : Nat)
  | ret
  | bad
def edg (o : Oper) : List Nat := (o.after.toList.filter (Region.binds .any)).map (·.on)
def liteC : Code → LC
  | .skip => .skip
  | .region _ ops d => if d then .drw [] [] (ops.toList.map edg) (ops.toList.map (liteO ops)) else .rgn [] (ops.toList.map (liteO ops))
  | .seq a b => .seq (liteC a) (liteC b)
  | .cond c a b => .cond c (liteC a) (liteC b)
  | .block id a => .blk id (liteC a)
  | .loop a => .loop [] (liteC a)
  | .exit id => .exit id
  | .ret => .ret
  | _ => .bad
def erC : LC → LC
  | .skip => .skip
  | .rgn _ ops => .rgn [] ops
  | .drw _ _ es ops => .drw [] [] es ops
  | .seq a b => .seq (erC a) (erC b)
  | .cond c a b => .cond c (erC a) (erC b)
  | .blk id a => .blk id (erC a)
  | .loop _ a => .loop [] (erC a)
  | .exit id => .exit id
  | .ret => .ret
  | .bad => .bad
def okC (nt : Nat) (bx : List Nat) : Code → Bool
  | .region _ ops _ => ops.toList.all (okOp nt bx)
  | .seq a b => okC nt bx a && okC nt bx b
  | .cond _ a b => okC nt bx a && okC nt bx b
  | .block _ a => okC nt bx a
  | .loop a => okC nt bx a
  | _ => true
def okL (bx : List Nat) : LC → Bool
  | .rgn cns ops => ops.all (okA bx cns)
  | .drw cns _ _ ops => ops.all (okA bx cns)
  | .seq a b => okL bx a && okL bx b
  | .cond _ a b => okL bx a && okL bx b
  | .blk _ a => okL bx a
  | .loop _ a => okL bx a
  | _ => true
def LS (P : Program) (nt : Nat) (bx : List Nat) (l : LC) (σ : PS) (Q : Exit → PS → Prop) : Prop := ∀ c, liteC c = erC l → okC nt bx c = true → okL bx l = true → CodeS P nt bx c σ Q
section
variable {P : Program} {nt : Nat} {bx : List Nat} {σ : PS} {Q : Exit → PS → Prop} {tb : Tb}
theorem ls_rgn (htb : TbOk P tb) {cns : List Nat} {ops : List LO} (h : evS P tb cns ops σ (Q .normal)) : LS P nt bx (.rgn cns ops) σ Q := by
  intro c hc hok hL
  cases c <;> first | cases hc | skip
  rename_i id ops' d
  simp only [liteC, erC] at hc
  split at hc
  · cases hc
  · rename_i hd
    simp only [LC.rgn.injEq, true_and] at hc
    have : d = false := by simpa using hd
    subst this
    exact codeS_region htb cns hok (by rw [hc]; exact hL) (by rw [hc]; exact h)
theorem ls_seq {x y : LC} (h : LS P nt bx x σ (thenQ (fun σ' => LS P nt bx y σ' Q) Q)) : LS P nt bx (.seq x y) σ Q := by
  intro c hc hok hL
  cases c <;> first | cases hc | skip
  · simp only [liteC, erC] at hc; split at hc <;> cases hc
  · rename_i a b
    simp only [liteC, erC, LC.seq.injEq] at hc
    simp only [okC, Bool.and_eq_true] at hok
    simp only [okL, Bool.and_eq_true] at hL
    refine codeS_seq (codeS_mono (h a hc.1 hok.1 hL.1) ?_)
    rintro (_ | id | l | _ | c | _) σ' hq
    · exact hq b hc.2 hok.2 hL.2
    all_goals exact hq
theorem ls_seq_k {x y : LC} (h : ∀ K : PS → Prop, (∀ σ', LS P nt bx y σ' Q → K σ') → LS P nt bx x σ (thenQ K Q)) : LS P nt bx (.seq x y) σ Q := ls_seq (h _ fun _ h => h)
theorem ls_skip (h : Q .normal σ) : LS P nt bx .skip σ Q := by
  intro c hc hok hL
  cases c <;> first | cases hc | skip
  · exact codeS_skip h
  · simp only [liteC, erC] at hc; split at hc <;> cases hc
theorem ls_exit {id : Nat} (h : Q (.exit id) σ) : LS P nt bx (.exit id) σ Q := by
  intro c hc hok hL
  cases c <;> first | (cases hc; done) | skip
  · simp only [liteC, erC] at hc; split at hc <;> cases hc
  · simp only [liteC, erC, LC.exit.injEq] at hc; subst hc; exact codeS_exit h
theorem ls_ret (h : Q .ret σ) : LS P nt bx .ret σ Q := by
  intro c hc hok hL
  cases c <;> first | (cases hc; done) | skip
  · simp only [liteC, erC] at hc; split at hc <;> cases hc
  · exact codeS_ret h
theorem ls_blk {id : Nat} {x : LC} (h : LS P nt bx x σ (blockQ id Q)) : LS P nt bx (.blk id x) σ Q := by
  intro c hc hok hL
  cases c <;> first | (cases hc; done) | skip
  · simp only [liteC, erC] at hc; split at hc <;> cases hc
  · simp only [liteC, erC, LC.blk.injEq] at hc; obtain ⟨rfl, hc⟩ := hc; exact codeS_block (h _ hc hok hL)
theorem ls_cond {c : Operand} {x y : LC} {b : Bool} (hb : opV σ c = .bool b) (ht : b = true → LS P nt bx x σ Q) (hf : b = false → LS P nt bx y σ Q) : LS P nt bx (.cond c x y) σ Q := by
  intro c hc hok hL
  cases c <;> first | (cases hc; done) | skip
  · simp only [liteC, erC] at hc; split at hc <;> cases hc
  · simp only [liteC, erC, LC.cond.injEq] at hc
    obtain ⟨rfl, h1, h2⟩ := hc
    simp only [okC, Bool.and_eq_true] at hok
    simp only [okL, Bool.and_eq_true] at hL
    exact codeS_cond hb (fun e => ht e _ h1 hok.1 hL.1) (fun e => hf e _ h2 hok.2 hL.2)
end

section
variable {P : Program} {nt : Nat} {bx : List Nat} {σ : PS} {Q : Exit → PS → Prop} {tb : Tb}
end

def rvSlot : ResultVar → Nat
  | .tmp t => t
  | .cell t _ => t
def resV (tb : Tb) (σ : PS) : ResultVar → Option V
  | .tmp t => if (σ t).isArg = true then some (σ t) else none
  | .cell t ty => match σ t, tb ty with
    | .box cs, some (.st n _ _) => if cs.length = n then some (.agg cs) else none
    | .box [c], some (.sc _) => some c
    | .box [c], some (.sl ..) => some c
    | _, _ => none
def resL (tb : Tb) (σ : PS) : List ResultVar → Option (List V)
  | [] => some []
  | r :: rs => match resV tb σ r, resL tb σ rs with
    | some c, some cs => some (c :: cs)
    | _, _ => none
def resF (tb : Tb) (σ : PS) (rs : List ResultVar) : Option V :=
  match resL tb σ rs with
  | some [c] => some c
  | some cs => some (.tup cs)
  | none => none
section
variable {P : Program} {nt base : Nat} {bx : List Nat} {St : Nat → Nat → Prop} {B : Nat → List Nat} {σ : PS} {a : Act} {w : World} {tb : Tb}
def oneRes (tmps : Array Value) : ResultVar → Sem Value
  | .tmp t => pure (tmps.getD t undef)
  | .cell a t => do loadVar t (← asAddr (tmps.getD a undef))
theorem res_one (htb : TbOk P tb) (h : HSim P nt bx base St B [] σ a w) {r : ResultVar} {c : V} (hc : resV tb σ r = some c) :
    ∃ v bs, (oneRes a.tmps r).run P w = .ok v w ∧ Ow P w St c v bs ∧ bs.Nodup ∧ (∀ g ∈ bs, g ∈ B (rvSlot r)) ∧ c.isArg = true := by
  cases r with
  | tmp t =>
    simp only [resV] at hc
    split at hc
    · rename_i hv
      simp only [Option.some.injEq] at hc
      subst hc
      exact ⟨_, B t, rfl, (h.slot t).ow (val_of_arg hv), h.nodup t, fun _ h => h, hv⟩
    · cases hc
  | cell t ty =>
    have hs := h.slot t
    have hnd := h.nodup t
    cases hb : σ t with
    | box cs =>
      rw [hb] at hs
      obtain ⟨g, T, bs', arr, e1, e2, e3, e4, e5⟩ := hs
      rw [e4] at hnd
      have hnd' := (List.nodup_cons.1 hnd).2
      have hsub : ∀ q ∈ bs', q ∈ B t := fun q hq => by rw [e4]; exact List.mem_cons_of_mem _ hq
      have e1' : a.tmps.getD t undef = .pointer (some ⟨g, 0, none⟩) := e1
      have hcell : ∀ (j : Nat) (u : Value), arr.toList[j]? = some u → w.cell? ⟨g, 0 + j, none⟩ = some u := by
        intro j u hu
        simpa [World.cell?, e2] using hu
      have hone : ∀ (c0 : V) (dd : TyD), cs = [c0] → tb ty = some dd → dd.aggr = false → ∃ v bs, (oneRes a.tmps (.cell t ty)).run P w = .ok v w ∧ Ow P w St c0 v bs ∧ bs.Nodup ∧ (∀ g ∈ bs, g ∈ B t) ∧ c0.isArg = true := by
        intro c0 dd hcs hty hag
        subst hcs
        obtain ⟨u, us', b1, b2, q1, q2, q3, q4, q5⟩ := e3
        obtain ⟨rfl, rfl⟩ := q5
        have hu := hcell 0 u (by rw [q1]; rfl)
        rw [List.append_nil] at q2
        subst q2
        refine ⟨u, bs', ?_, q4, hnd', hsub, by cases c0 <;> first | rfl | cases q3⟩
        simp only [Nat.add_zero] at hu
        simp [oneRes, e1', asAddr, loadVar, (htb _ _ hty).isAgg, hag, hu]
      cases hty : tb ty with
      | none => simp only [resV, hb, hty] at hc; cases cs with
        | nil => cases hc
        | cons x xs => cases xs <;> cases hc
      | some d =>
        cases d with
        | st n z f =>
          simp only [resV, hb, hty] at hc
          split at hc
          · rename_i hl
            simp only [Option.some.injEq] at hc
            subst hc
            refine ⟨.agg arr, bs', ?_, ⟨arr.toList, by simp, e3⟩, hnd', hsub, rfl⟩
            have hagr := htb _ _ hty
            have hr := run_loadCells_list (P := P) (w := w) ⟨g, 0, none⟩ arr.toList (fun j v hv => by rw [add_plain]; exact hcell j v hv)
            have hlen : arr.toList.length = n := by rw [e3.length, hl]
            rw [hlen] at hr
            simp only [oneRes, e1', asAddr, loadVar, Sem.run_bind, Sem.run_pure, Result.andThen_ok, hagr.isAgg, TyD.aggr, if_true, hagr.sizeOf, TyD.size, hr, Array.toArray_toList]
          · cases hc
        | sc z =>
          match cs, hb, hc with
          | [c0], hb, hc =>
            simp only [resV, hb, hty, Option.some.injEq] at hc
            subst hc
            exact hone c0 _ rfl hty rfl
          | [], hb, hc => simp only [resV, hb, hty] at hc; cases hc
          | _ :: _ :: _, hb, hc => simp only [resV, hb, hty] at hc; cases hc
        | sl e es eb ez =>
          match cs, hb, hc with
          | [c0], hb, hc =>
            simp only [resV, hb, hty, Option.some.injEq] at hc
            subst hc
            exact hone c0 _ rfl hty rfl
          | [], hb, hc => simp only [resV, hb, hty] at hc; cases hc
          | _ :: _ :: _, hb, hc => simp only [resV, hb, hty] at hc; cases hc
    | _ => simp only [resV, hb] at hc; cases hc
theorem res_list (htb : TbOk P tb) (h : HSim P nt bx base St B [] σ a w) : ∀ (rs : List ResultVar) (cs : List V), (rs.map rvSlot).Nodup → resL tb σ rs = some cs →
    ∃ us bs, (rs.mapM (oneRes a.tmps)).run P w = .ok us w ∧ OwTup P w St cs us bs ∧ bs.Nodup ∧ (∀ g ∈ bs, ∃ r ∈ rs, g ∈ B (rvSlot r)) ∧ us.length = cs.length ∧ (∀ c, cs = [c] → ∃ u, us = [u] ∧ Ow P w St c u bs)
  | [], cs, _, e => by
    simp only [resL, Option.some.injEq] at e
    subst e
    exact ⟨[], [], rfl, ⟨rfl, rfl⟩, List.nodup_nil, by simp, rfl, by simp⟩
  | r :: rs, cs, hn, e => by
    simp only [resL] at e
    split at e
    · rename_i c cs' hc hcs
      simp only [Option.some.injEq] at e
      subst e
      simp only [List.map_cons, List.nodup_cons] at hn
      obtain ⟨v, b1, r1, o1, n1, s1, _⟩ := res_one htb h hc
      obtain ⟨us, b2, r2, o2, n2, s2, l2, l3⟩ := res_list htb h rs cs' hn.2 hcs
      refine ⟨v :: us, b1 ++ b2, ?_, ⟨v, us, b1, b2, rfl, rfl, o1, o2⟩, ?_, ?_, by simp [l2], ?_⟩
      · simp only [List.mapM_cons, Sem.run_bind, r1, Result.andThen_ok, r2, Sem.run_pure]
      · refine List.nodup_append.2 ⟨n1, n2, fun x hx y hy exy => ?_⟩
        subst exy
        obtain ⟨r', hr', hx'⟩ := s2 x hy
        have hne : rvSlot r ≠ rvSlot r' := fun e => hn.1 (e ▸ List.mem_map_of_mem hr')
        exact h.apart _ _ hne x (s1 x hx) hx'
      · intro g hg
        rcases List.mem_append.1 hg with hg | hg
        · exact ⟨r, by simp, s1 g hg⟩
        · obtain ⟨r', h1, h2⟩ := s2 g hg; exact ⟨r', by simp [h1], h2⟩
      · intro c0 hc0
        simp only [List.cons.injEq] at hc0
        obtain ⟨rfl, rfl⟩ := hc0
        obtain ⟨rfl, rfl⟩ := o2
        exact ⟨v, rfl, by rw [List.append_nil]; exact o1⟩
    · cases e
theorem res_run (htb : TbOk P tb) (h : HSim P nt bx base St B [] σ a w) {fn : Func} (hn : (fn.results.toList.map rvSlot).Nodup) {c : V} (hc : resF tb σ fn.results.toList = some c) :
    ∃ v bs, (results fn a.tmps).run P w = .ok v w ∧ Ow P w St c v bs ∧ bs.Nodup ∧ ∀ g ∈ bs, base ≤ g ∧ g < w.heap.size := by
  unfold resF at hc
  have hrun : ∀ us, (fn.results.toList.mapM (oneRes a.tmps)).run P w = .ok us w → (results fn a.tmps).run P w = .ok (if h : us.toArray.size = 1 then us.toArray[0] else .tuple us.toArray) w := by
    intro us hr
    have h0 : (fn.results.mapM (oneRes a.tmps) : Sem (Array Value)).run P w = .ok us.toArray w := by
      rw [Array.mapM_eq_mapM_toList, Sem.run_map, hr]; rfl
    have e2 : results fn a.tmps = (do let vs ← fn.results.mapM (oneRes a.tmps); pure (if h : vs.size = 1 then vs[0] else .tuple vs) : Sem Value) := by
      unfold results
      congr 1
    rw [e2]
    simp only [Sem.run_bind, h0, Result.andThen_ok, Sem.run_pure]
  have hin : ∀ bs : List Nat, (∀ g ∈ bs, ∃ r ∈ fn.results.toList, g ∈ B (rvSlot r)) → ∀ g ∈ bs, base ≤ g ∧ g < w.heap.size := fun bs hb g hg => by
    obtain ⟨r, _, h2⟩ := hb g hg
    exact h.range _ g h2
  split at hc
  · rename_i c0 hl
    simp only [Option.some.injEq] at hc
    subst hc
    obtain ⟨us, bs, r1, _, n1, s1, _, l3⟩ := res_list htb h _ _ hn hl
    obtain ⟨u, rfl, o1⟩ := l3 _ rfl
    exact ⟨u, bs, by rw [hrun _ r1]; rfl, o1, n1, hin bs s1⟩
  · rename_i cs hne hl
    simp only [Option.some.injEq] at hc
    subst hc
    obtain ⟨us, bs, r1, o1, n1, s1, l2, _⟩ := res_list htb h _ _ hn hl
    have hlen : us.toArray.size ≠ 1 := by
      intro e
      simp only [List.size_toArray] at e
      rw [l2] at e
      obtain ⟨c, hc⟩ := List.length_eq_one_iff.1 e
      exact hne c hc
    exact ⟨.tuple us.toArray, bs, by rw [hrun _ r1, dif_neg hlen], ⟨us, rfl, o1⟩, n1, hin bs s1⟩
  · cases hc
def plainC : V → Bool
  | .int .. | .bool .. | .str .. | .dat .. | .arg .. | .fn .. => true
  | _ => false
def plainA : V → Bool
  | .agg cs => cs.all plainC
  | c => plainC c
theorem plain_ow {c : V} {v : Value} (hp : plainC c = true) (h : Rd w St c v) : Ow P w St c v [] := by
  cases c <;> first | exact ⟨rfl, h⟩ | cases hp
theorem plain_row : ∀ (cs : List V) {us : List Value}, cs.all plainC = true → RdL w St cs us → OwRow P w St cs us []
  | [], _, _, h => ⟨h, rfl⟩
  | c :: cs, _, hp, ⟨u, us', e, h1, h2⟩ => by
    simp only [List.all_cons, Bool.and_eq_true] at hp
    exact ⟨u, us', [], [], e, rfl, h1.isCell, plain_ow hp.1 h1, plain_row cs hp.2 h2⟩
theorem plain_arg {c : V} {v : Value} (hp : plainA c = true) (h : RdA w St c v) : Ow P w St c v [] := by
  cases c <;> first | exact plain_ow hp h | cases hp | skip
  obtain ⟨us, e, h⟩ := h
  exact ⟨us, e, plain_row _ hp h⟩
def initS (args : List V) : PS := fun s => (args[s]?).getD (.tup [])
theorem args_at : ∀ {args : List V} {vs : List Value}, RdAs w St args vs → vs.length = args.length ∧ ∀ (s : Nat) (c : V), args[s]? = some c → ∃ v, vs[s]? = some v ∧ RdA w St c v
  | [], _, h => by rw [show _ = [] from h]; exact ⟨rfl, by simp⟩
  | c :: args, _, ⟨u, us', e, h1, h2⟩ => by
    obtain ⟨l, hr⟩ := args_at h2
    refine ⟨by rw [e]; simp [l], fun s d hd => ?_⟩
    cases s with
    | zero => simp only [List.getElem?_cons_zero, Option.some.injEq] at hd; subst hd; exact ⟨u, by rw [e]; rfl, h1⟩
    | succ s => rw [e]; simpa using hr s d (by simpa using hd)
theorem sound_of (htb : TbOk P tb) {f : FuncId} {fn : Func} {c : Code} {args : List V} {r : V} (hf : P.funcs[f]? = some fn) (hb : fn.body = some c) (hname : (fn.name == "runtime.NumGoroutine") = false) (bx : List Nat) (hlen : args.length ≤ fn.ntmps) (hargs : args.all plainA = true)
    (hn : (fn.results.toList.map rvSlot).Nodup) (h : CodeS P fn.ntmps bx c (initS args) (fun e σ => (e = .ret ∨ e = .normal) ∧ resF tb σ fn.results.toList = some r)) : SoundAt P f args r := by
  refine ⟨⟨fn, hf, by rw [hb]; rfl, hname⟩, fun w St vs hst hvs => ?_⟩
  obtain ⟨hl, hat⟩ := args_at hvs
  refine calls_of_wp hf hb ?_
  have htm : ∀ s, tm { tmps := vs.toArray ++ Array.replicate (fn.ntmps - vs.toArray.size) undef, defers := [] } s = (vs[s]?).getD undef := by
    intro s
    unfold tm
    rw [Array.getD_eq_getD_getElem?, Array.getElem?_append]
    split
    · simp
    · rename_i hlt
      rw [List.size_toArray] at hlt
      rw [List.getElem?_eq_none (by omega)]
      rw [Array.getElem?_replicate]
      split <;> rfl
  have hrel : Rel P fn.ntmps bx w.heap.size St w (initS args) { tmps := vs.toArray ++ Array.replicate (fn.ntmps - vs.toArray.size) undef, defers := [] } w := by
    refine ⟨St, fun _ => [], ?_, Below.refl _ _, fun _ _ _ => Iff.rfl, Nat.le_refl _⟩
    refine
    { size := by simp; omega
      defers := rfl
      slot := fun s => ?_
      boxes := fun s cs e => ?_
      crefs := fun s b e => ?_
      nodup := fun _ => List.nodup_nil
      apart := fun _ _ _ g hg => by simp at hg
      hnodup := List.nodup_nil
      hapart := fun _ g hg => by simp at hg
      range := fun _ g hg => by simp at hg
      hrange := fun g hg => by simp at hg
      st := hst }
    · rw [htm]
      cases hc : args[s]? with
      | none =>
        have : vs[s]? = none := by
          rw [List.getElem?_eq_none_iff] at hc ⊢; omega
        simp only [initS, hc, this, Option.getD_none]
        exact ⟨[], rfl, rfl, rfl⟩
      | some c =>
        obtain ⟨v, hv, hr⟩ := hat s c hc
        simp only [initS, hc, hv, Option.getD_some]
        exact (plain_arg (List.all_eq_true.1 hargs c (List.mem_of_getElem? hc)) hr).slot
    · simp only [initS] at e
      cases hc : args[s]? with
      | none => rw [hc] at e; cases e
      | some c =>
        rw [hc] at e
        have hp := List.all_eq_true.1 hargs c (List.mem_of_getElem? hc)
        simp only [Option.getD_some] at e
        cases c <;> first | (cases hp; done) | (cases e; done)
    · simp only [initS] at e
      cases hc : args[s]? with
      | none => rw [hc] at e; cases e
      | some c =>
        rw [hc] at e
        have hp := List.all_eq_true.1 hargs c (List.mem_of_getElem? hc)
        simp only [Option.getD_some] at e
        cases c <;> first | (cases hp; done) | (cases e; done)
  refine wp_mono (h _ _ _ _ _ hrel) ?_
  rintro e a' w' ⟨σ', ⟨he, hres⟩, St', B', h1, h2, h3, h4⟩
  have hfin : a'.defers = [] ∧ ∃ v, (results fn a'.tmps).run P w' = .ok v w' ∧ Ret P w St r (.returned v) w' := by
    obtain ⟨v, bs, q1, q2, q3, q4⟩ := res_run htb h1 hn hres
    exact ⟨h1.defers, v, q1, v, bs, St', rfl, h2, h3, h1.st, q2, q3, q4⟩
  rcases he with rfl | rfl
  · exact hfin
  · exact hfin
def retQ (tb : Tb) (rs : List ResultVar) (r : V) (e : Exit) (σ : PS) : Prop := (e = .ret ∨ e = .normal) ∧ resF tb σ rs = some r
structure Lit (P : Program) (f : FuncId) (nt : Nat) (bx : List Nat) (rs : List ResultVar) (l : LC) : Prop where
  ex : ∃ fn c, P.funcs[f]? = some fn ∧ fn.body = some c ∧ (fn.name == "runtime.NumGoroutine") = false ∧ fn.ntmps = nt ∧ fn.results.toList = rs ∧ liteC c = erC l ∧ okC nt bx c = true
  nd : (rs.map rvSlot).Nodup
  ok : okL bx l = true
theorem sound_lit (htb : TbOk P tb) {f : FuncId} {nt : Nat} {bx : List Nat} {rs : List ResultVar} {l : LC} {args : List V} {r : V} (hl : Lit P f nt bx rs l) (hlen : args.length ≤ nt) (hargs : args.all plainA = true)
    (h : LS P nt bx l (initS args) (retQ tb rs r)) : SoundAt P f args r := by
  obtain ⟨⟨fn, c, h1, h2, h3, rfl, rfl, h6, h7⟩, hn, hL⟩ := hl
  exact sound_of htb h1 h2 h3 bx hlen hargs hn (h c h6 h7 hL)
end
end Go.Proofs.Ytmioifafgbjjhaa

namespace Go.Proofs.Ytmioifafgbjjhaa
open Go.RowKit
set_option linter.unusedVariables false

def opT : Operand → List Nat
  | .tmp t => [t]
  | _ => []
def opdT (o : Op) : List Nat := o.operands.toList.flatMap opT
def bas (R : List Nat) : V → Bool
  | .cref s _ => R.contains s
  | .same s => R.contains s
  | .uni _ _ _ => false
  | _ => true
def simple (cns : List Nat) (o : LO) : Bool :=
  match o.op, o.dst with
  | .assign _, _ => false
  | .move _, some d => !cns.contains d
  | .load _ _, some d => !cns.contains d
  | .extract _ _, _ => false
  | .store _ _ _, _ => false
  | .alloc _, _ => false
  | .box _ _, _ => false
  | .build _ _, _ => false
  | .buildSlice _ _ _, _ => false
  | .makeSlice _ _ _, _ => false
  | .call c, _ => match c.callee with
    | .builtin .append => false
    | _ => true
  | _, _ => true
def gT (o : LO) : List Nat := match o.g with
  | some (some q, _) => [q]
  | _ => []
def gO (o : LO) (s : Nat) : Bool := (gT o).contains s && !(opdT o.op).contains s
def fpB (cns R W : List Nat) (o : LO) : Bool :=
  (opdT o.op).all R.contains && (gT o).all R.contains && (o.dst.toList).all W.contains && W.all (fun s => R.contains s || o.dst == some s) && (simple cns o || R.all (fun s => W.contains s || gO o s)) && (match o.op with
    | .alloc _ => o.dst.toList.all R.contains
    | .box _ _ => false
    | .select _ _ => false
    | .assign _ | .makeSlice _ _ _ => o.dst.toList.all (fun d => !cns.contains d)
    | _ => true)
def adP : Op → List Nat
  | .load _ x => opT x
  | .fieldAddr _ x _ => opT x
  | .store _ x _ => opT x
  | .indexAddr _ x _ => opT x
  | .call c => match c.callee, c.args.toList with
    | .builtin .len, [x] => opT x
    | _, _ => []
  | _ => []
def adU (cns : List Nat) (o : LO) : List Nat := match o.op, o.dst with
  | .assign x, _ => opT x
  | .move x, some d => if cns.contains d = true then opT x else []
  | _, _ => []
def fpS (cns R W : List Nat) (o : LO) (σ : PS) : Prop := fpB cns R W o = true ∧ (adP o.op).all (fun p => bas R (σ p)) = true ∧ (adU cns o).all (fun p => bas R (σ p)) = true
def pt (W : List Nat) (σ' τ : PS) : PS := fun s => if W.contains s = true then σ' s else τ s
def updL (σ : PS) : List (Nat × V) → PS
  | [] => σ
  | (s, v) :: us => upd (updL σ us) s v
def Agrees (R : List Nat) (σ τ : PS) : Prop := ∀ s, R.contains s = true → τ s = σ s
theorem updL_out {σ : PS} : ∀ {us : List (Nat × V)} {s : Nat}, s ∉ us.map (·.1) → updL σ us s = σ s
  | [], _, _ => rfl
  | (q, v) :: us, s, h => by
    simp only [List.map_cons, List.mem_cons, not_or] at h
    simp only [updL]
    rw [upd_ne _ _ h.1]
    exact updL_out h.2
theorem updL_in {σ τ : PS} : ∀ {us : List (Nat × V)} {s : Nat}, s ∈ us.map (·.1) → updL τ us s = updL σ us s
  | [], _, h => by simp at h
  | (q, v) :: us, s, h => by
    simp only [updL]
    by_cases e : s = q
    · subst e; rw [upd_same, upd_same]
    · rw [upd_ne _ _ e, upd_ne _ _ e]
      simp only [List.map_cons, List.mem_cons] at h
      exact updL_in (h.resolve_left e)
theorem updL_pt {R W : List Nat} {σ τ : PS} (ha : Agrees R σ τ) {us : List (Nat × V)} (h1 : ∀ s ∈ us.map (·.1), W.contains s = true) (h2 : ∀ s, W.contains s = true → s ∈ us.map (·.1) ∨ R.contains s = true) :
    updL τ us = pt W (updL σ us) τ ∧ ∀ s, W.contains s = false → updL σ us s = σ s := by
  constructor
  · funext s
    unfold pt
    split
    · rename_i hw
      by_cases hk : s ∈ us.map (·.1)
      · exact updL_in hk
      · rw [updL_out hk, updL_out hk]
        exact ha s ((h2 s hw).resolve_left hk)
    · rename_i hw
      exact updL_out (fun hk => hw (h1 s hk))
  · intro s hw
    exact updL_out (fun hk => by rw [h1 s hk] at hw; cases hw)
section
variable {P : Program} {tb : Tb} {cns R W : List Nat} {σ τ : PS} {o : LO} {K : PS → Prop}
theorem opV_agr (ha : Agrees R σ τ) {x : Operand} (hx : (opT x).all R.contains = true) : opV τ x = opV σ x := by
  cases x with
  | tmp t => simp only [opT, List.all_cons, List.all_nil, Bool.and_true] at hx; exact ha t hx
  | _ => rfl
theorem adV_agr (ha : Agrees R σ τ) {x : Operand} (hx : (opT x).all R.contains = true) : adV τ x = adV σ x := by
  cases x with
  | tmp t => simp only [opT, List.all_cons, List.all_nil, Bool.and_true] at hx; simp only [adV, ha t hx]
  | _ => rfl
theorem base_in {x : Operand} {s off : Nat} (hb : (opT x).all (fun p => bas R (σ p)) = true) (hx : (opT x).all R.contains = true) (h : adV σ x = .cref s off) : R.contains s = true := by
  cases x with
  | tmp t =>
    simp only [opT, List.all_cons, List.all_nil, Bool.and_true] at hb hx
    simp only [adV] at h
    split at h
    · simp only [V.cref.injEq] at h; rw [← h.1]; exact hx
    · rw [h] at hb; exact hb
  | _ => cases h
theorem load_agr (ha : Agrees R σ τ) {x : Operand} (d : Option TyD) (hb : (opT x).all (fun p => bas R (σ p)) = true) (hx : (opT x).all R.contains = true) : loadV' d τ (adV τ x) = loadV' d σ (adV σ x) ∧ loadC' d τ (adV τ x) = loadC' d σ (adV σ x) := by
  rw [adV_agr ha hx]
  cases d with
  | none => exact ⟨rfl, rfl⟩
  | some d =>
    cases h : adV σ x with
    | cref s off =>
      have := ha s (base_in hb hx h)
      simp only [loadV', loadC', loadV, loadC, this]
      exact ⟨trivial, trivial⟩
    | _ => exact ⟨rfl, rfl⟩
theorem all_sub {α : Type} {f g : Operand → List α} {p : α → Bool} {xs : List Operand} {x : Operand} (h : (xs.flatMap f).all p = true) (hx : x ∈ xs) : (f x).all p = true := by
  rw [List.all_eq_true] at h ⊢
  exact fun a ha => h a (List.mem_flatMap.2 ⟨x, hx, ha⟩)
theorem same_agr (ha : Agrees R σ τ) {x : Operand} (hb : (opT x).all (fun p => bas R (σ p)) = true) {s : Nat} (h : opV σ x = .same s) : τ s = σ s := by
  cases x with
  | tmp t =>
    simp only [opT, List.all_cons, List.all_nil, Bool.and_true] at hb
    rw [show σ t = .same s from h] at hb
    exact ha s hb
  | const v => exfalso; simp only [opV, cV] at h; split at h <;> (try split at h) <;> cases h
  | _ => cases h
theorem lenS_agr (ha : Agrees R σ τ) {x : Operand} (d : Option TyD) (hb : (opT x).all (fun p => bas R (σ p)) = true) : lenS τ (opV σ x) = lenS σ (opV σ x) ∧ lenSC d τ (opV σ x) = lenSC d σ (opV σ x) := by
  cases h : opV σ x with
  | same s => have := same_agr ha hb h; simp only [lenS, lenSC, this]; exact ⟨trivial, trivial⟩
  | _ => exact ⟨rfl, rfl⟩
theorem iaS_agr (ha : Agrees R σ τ) {x : Operand} (es : Nat) (i : V) (hb : (opT x).all (fun p => bas R (σ p)) = true) : iaS τ es (opV σ x) i = iaS σ es (opV σ x) i ∧ iaSC τ (opV σ x) i = iaSC σ (opV σ x) i := by
  cases h : opV σ x with
  | same s => have := same_agr ha hb h; simp only [iaS, iaSC, this]; exact ⟨trivial, trivial⟩
  | _ => exact ⟨rfl, rfl⟩
theorem callV_agr (ha : Agrees R σ τ) (cal : Callee) (args : List Operand) (ts : List TypeId) (h : ∀ x ∈ args, opV τ x = opV σ x) (hb : (match cal, args with | .builtin .len, [x] => opT x | _, _ => []).all (fun p => bas R (σ p)) = true) : pvCall τ cal args = pvCall σ cal args ∧ pcCall tb τ cal args ts = pcCall tb σ cal args ts := by
  constructor
  · unfold pvCall
    split
    · rw [h _ (by simp)]; exact (lenS_agr ha none hb).1
    · rw [h _ (by simp), h _ (by simp)]
    · rw [h _ (by simp), h _ (by simp)]
    · rfl
  · unfold pcCall
    split
    · rw [h _ (by simp)]; exact (lenS_agr ha _ hb).2
    · rw [h _ (by simp), h _ (by simp)]
    · rw [h _ (by simp), h _ (by simp)]
    · rfl
theorem pure_agr (ha : Agrees R σ τ) {op : Op} (hx : (opdT op).all R.contains = true) (hb : (adP op).all (fun p => bas R (σ p)) = true) : pv tb τ op = pv tb σ op ∧ pc tb τ op = pc tb σ op := by
  have ho : ∀ x, x ∈ op.operands.toList → opV τ x = opV σ x := fun x h => opV_agr ha (all_sub (g := opT) hx h)
  cases op with
  | move x =>
    have h1 := ho x (by simp [Op.operands])
    cases x with
    | tmp t => simp only [pv, pc, mvV, mvC, show τ t = σ t from h1]; exact ⟨trivial, trivial⟩
    | _ => exact ⟨rfl, rfl⟩
  | pick c x y =>
    have h1 := ho c (by simp [Op.operands]); have h2 := ho x (by simp [Op.operands]); have h3 := ho y (by simp [Op.operands])
    have e1 : ∀ v, pickV τ x y v = pickV σ x y v := by intro v; cases v <;> first | rfl | simp only [pickV, h2, h3]
    have e2 : ∀ v, pickC τ x y v = pickC σ x y v := by intro v; cases v <;> first | rfl | simp only [pickC, h2, h3]
    simp only [pv, pc, h1, e1, e2]; exact ⟨trivial, trivial⟩
  | binOp op t x y t' => have h1 := ho x (by simp [Op.operands]); have h2 := ho y (by simp [Op.operands]); simp only [pv, pc, h1, h2]; exact ⟨trivial, trivial⟩
  | unOp op t x => have h1 := ho x (by simp [Op.operands]); simp only [pv, pc, h1]; exact ⟨trivial, trivial⟩
  | convert s d x => have h1 := ho x (by simp [Op.operands]); simp only [pv, pc, h1]; exact ⟨trivial, trivial⟩
  | load t x =>
    have hm : x ∈ (Op.load t x).operands.toList := by simp [Op.operands]
    have := load_agr ha (x := x) (tb t) hb (all_sub (g := opT) hx hm)
    simp only [pv, pc, this.1, this.2]; exact ⟨trivial, trivial⟩
  | fieldAddr t x f =>
    have hm : x ∈ (Op.fieldAddr t x f).operands.toList := by simp [Op.operands]
    have h1 := adV_agr ha (all_sub (g := opT) hx hm)
    have h2 : ∀ d, faC' d f τ (adV σ x) = faC' d f σ (adV σ x) := by
      intro d
      cases h : adV σ x with
      | cref s off =>
        have := ha s (base_in hb (all_sub (g := opT) hx hm) h)
        simp only [faC', faC, this]
      | _ => rfl
    simp only [pv, pc, h1, h2]; exact ⟨trivial, trivial⟩
  | indexAddr t x i =>
    have h1 := ho x (by simp [Op.operands]); have h2 := ho i (by simp [Op.operands])
    simp only [pv, pc, h1, h2, iaV', iaC']
    constructor
    · split
      · exact (iaS_agr ha _ _ hb).1
      · rfl
    · split
      · exact (iaS_agr ha 0 _ hb).2
      · rfl
  | index t x i => have h1 := ho x (by simp [Op.operands]); have h2 := ho i (by simp [Op.operands]); simp only [pv, pc, h1, h2]; exact ⟨trivial, trivial⟩
  | slice t x lo hi mx =>
    have h1 := ho x (by simp [Op.operands])
    have h2 : lo.map (opV τ) = lo.map (opV σ) := by cases lo with | none => rfl | some l => simp only [Option.map_some, ho l (by simp [Op.operands])]
    have h3 : hi.map (opV τ) = hi.map (opV σ) := by cases hi with | none => rfl | some l => simp only [Option.map_some, ho l (by simp [Op.operands])]
    cases mx with
    | none => simp only [pv, pc, h1, h2, h3]; exact ⟨trivial, trivial⟩
    | some m => exact ⟨rfl, rfl⟩
  | call c =>
    have h1 : ∀ x ∈ c.args.toList, opV τ x = opV σ x := fun x h => ho x (by simp [Op.operands, Call.operands]; exact .inr (by simpa using h))
    have h2 := callV_agr (tb := tb) ha c.callee c.args.toList c.argTypes.toList h1 hb
    simp only [pv, pc, h2.1, h2.2]; exact ⟨trivial, trivial⟩
  | _ => exact ⟨rfl, rfl⟩
def Loc (W : List Nat) (σ τ : PS) (K : PS → Prop) (τ' : PS) : Prop := ∃ σ', K σ' ∧ τ' = pt W σ' τ ∧ ∀ s, W.contains s = false → σ' s = σ s
theorem loc_upd (ha : Agrees R σ τ) {us : List (Nat × V)} (h1 : ∀ s ∈ us.map (·.1), W.contains s = true) (h2 : ∀ s, W.contains s = true → s ∈ us.map (·.1) ∨ R.contains s = true) (hk : K (updL σ us)) : Loc W σ τ K (updL τ us) := by
  obtain ⟨e1, e2⟩ := updL_pt ha h1 h2
  exact ⟨_, hk, e1, e2⟩
theorem take_upd (σ : PS) (x : Operand) : ∃ us : List (Nat × V), us.map (·.1) = opT x ∧ takeS σ x = updL σ us ∧ ∀ τ, Agrees (opT x) σ τ → takeS τ x = updL τ us := by
  cases x with
  | tmp t =>
    refine ⟨[(t, dg (σ t))], rfl, rfl, fun τ h => ?_⟩
    have := h t (by simp [opT])
    simp only [takeS, updL, this]
  | const v => exact ⟨[], rfl, rfl, fun _ _ => rfl⟩
  | global g => exact ⟨[], rfl, rfl, fun _ _ => rfl⟩
  | func f => exact ⟨[], rfl, rfl, fun _ _ => rfl⟩
theorem updL_app (σ : PS) (us vs : List (Nat × V)) : updL (updL σ vs) us = updL σ (us ++ vs) := by
  induction us with
  | nil => rfl
  | cons p us ih => obtain ⟨s, v⟩ := p; simp only [updL, List.cons_append, ih]
theorem fpB_parts (h : fpB cns R W o = true) : (opdT o.op).all R.contains = true ∧ (∀ q b, o.g = some (some q, b) → R.contains q = true) ∧ (∀ d, o.dst = some d → W.contains d = true) ∧ (∀ s, W.contains s = true → R.contains s = true ∨ o.dst = some s) ∧ (simple cns o = true ∨ ∀ s, R.contains s = true → W.contains s = true ∨ gO o s = true) := by
  simp only [fpB, Bool.and_eq_true] at h
  obtain ⟨⟨⟨⟨⟨h1, h2⟩, h3⟩, h4⟩, h5⟩, _⟩ := h
  refine ⟨h1, fun q b e => ?_, fun d e => ?_, fun s hs => ?_, ?_⟩
  · rw [gT, e] at h2; simpa using h2
  · rw [e] at h3; simpa using h3
  · have := List.all_eq_true.1 h4 s (by simpa using hs)
    simp only [Bool.or_eq_true, beq_iff_eq] at this
    exact this
  · simp only [Bool.or_eq_true] at h5
    rcases h5 with h | h
    · exact .inl h
    · exact .inr fun s hs => by simpa using List.all_eq_true.1 h s (by simpa using hs)
theorem gO_none (hg : o.g = none) (h : ∀ s, R.contains s = true → W.contains s = true ∨ gO o s = true) : ∀ s, R.contains s = true → W.contains s = true := fun s hs => by
  rcases h s hs with h | h
  · exact h
  · simp [gO, gT, hg] at h
theorem gO_opd (h1 : (opdT o.op).all R.contains = true) (h : ∀ s, R.contains s = true → W.contains s = true ∨ gO o s = true) : (opdT o.op).all W.contains = true := by
  rw [List.all_eq_true]
  intro s hs
  rcases h s (List.all_eq_true.1 h1 s hs) with h | h
  · exact h
  · simp [gO, hs] at h
theorem loc_one (ha : Agrees R σ τ) (hp : fpB cns R W o = true) {d : Nat} (hd : o.dst = some d) {v : V} (hk : K (upd σ d v)) : Loc W σ τ K (upd τ d v) := by
  obtain ⟨h1, h2, h3, h4, h5⟩ := fpB_parts hp
  refine loc_upd (us := [(d, v)]) ha (fun s hs => ?_) (fun s hs => ?_) hk
  · simp only [List.map_cons, List.map_nil, List.mem_singleton] at hs; subst hs; exact h3 _ hd
  · rcases h4 s hs with h | h
    · exact .inr h
    · rw [hd] at h; injection h with h; subst h; exact .inl (by simp)
theorem pureS_loc (ha : Agrees R σ τ) (hf : fpS cns R W o σ) (h : pureS tb o σ K) : pureS tb o τ (Loc W σ τ K) := by
  obtain ⟨h1, h2, h3, h4, h5⟩ := fpB_parts hf.1
  have hp := pure_agr (tb := tb) ha h1 hf.2.1
  unfold pureS at *
  cases hd : o.dst with
  | none => rw [hd] at h; exact h
  | some d =>
    rw [hd] at h
    simp only at h ⊢
    cases hg : o.g with
    | none => rw [hg] at h; rw [hp.1, hp.2]; exact ⟨h.1, loc_one ha hf.1 hd h.2⟩
    | some g =>
      obtain ⟨q, b⟩ := g
      rw [hg] at h
      cases q with
      | none => exact h
      | some q =>
        simp only at h ⊢
        rw [ha q (h2 q b hg), hp.1, hp.2]
        exact ⟨h.1, fun e => ⟨(h.2.1 e).1, loc_one ha hf.1 hd (h.2.1 e).2⟩, fun e => loc_one ha hf.1 hd (h.2.2 e)⟩
theorem grd_loc (ha : Agrees R σ τ) (hf : fpS cns R W o σ) {d : Nat} (hd : o.dst = some d) {X X' : Prop} (hX : X → X') (h : grdS o d σ K X) : grdS o d τ (Loc W σ τ K) X' := by
  obtain ⟨h1, h2, h3, h4, h5⟩ := fpB_parts hf.1
  unfold grdS at *
  cases hg : o.g with
  | none => rw [hg] at h; exact hX h
  | some g =>
    obtain ⟨q, b⟩ := g
    rw [hg] at h
    cases q with
    | none => exact h
    | some q =>
      simp only at h ⊢
      rw [ha q (h2 q b hg)]
      exact ⟨h.1, fun e => hX (h.2.1 e), fun e => loc_one ha hf.1 hd (h.2.2 e)⟩
theorem callS_loc (ha : Agrees R σ τ) (hf : fpS cns R W o σ) {f : FuncId} {args : List Operand} (hargs : ∀ x ∈ args, (opT x).all R.contains = true) (h : callS P o f args σ K) : callS P o f args τ (Loc W σ τ K) := by
  obtain ⟨h1, h2, h3, h4, h5⟩ := fpB_parts hf.1
  have e1 : (args.map fun x => er (opV τ x)) = args.map fun x => er (opV σ x) := List.map_congr_left fun x hx => by rw [opV_agr ha (hargs x hx)]
  have e2 : args.all (fun x => (opV τ x).isArg) = args.all (fun x => (opV σ x).isArg) := by
    rw [Bool.eq_iff_iff, List.all_eq_true, List.all_eq_true]
    exact ⟨fun h x hx => by have := h x hx; rwa [opV_agr ha (hargs x hx)] at this, fun h x hx => by rw [opV_agr ha (hargs x hx)]; exact h x hx⟩
  unfold callS at *
  rw [e1, e2]
  cases hg : o.g with
  | none =>
    rw [hg] at h
    obtain ⟨q1, r, q2, q3⟩ := h
    refine ⟨q1, r, q2, ?_⟩
    cases hd : o.dst with
    | none =>
      rw [hd] at q3
      simp only [putD] at q3 ⊢
      refine loc_upd (us := []) ha (by simp) (fun s hs => ?_) q3
      rcases h4 s hs with h | h
      · exact .inr h
      · rw [hd] at h; cases h
    | some d => rw [hd] at q3; exact loc_one ha hf.1 hd q3
  | some g =>
    obtain ⟨q, b⟩ := g
    rw [hg] at h
    simp only at h ⊢
    cases q with
    | none => exact h
    | some q =>
      cases hd : o.dst with
      | none => rw [hd] at h; exact h
      | some d =>
        rw [hd] at h
        simp only at h ⊢
        rw [ha q (h2 q b hg)]
        obtain ⟨q1, q2, q3⟩ := h
        refine ⟨q1, fun e => ?_, fun e => loc_one ha hf.1 hd (q3 e)⟩
        obtain ⟨q4, r, q5, q6⟩ := q2 e
        exact ⟨q4, r, q5, loc_one ha hf.1 hd q6⟩
theorem loc_manyW (ha : Agrees R σ τ) (hp : fpB cns R W o = true) {us : List (Nat × V)} (h1 : ∀ s ∈ us.map (·.1), W.contains s = true) (h2 : ∀ d, o.dst = some d → d ∈ us.map (·.1)) (hk : K (updL σ us)) : Loc W σ τ K (updL τ us) := by
  obtain ⟨q1, q2, q3, q4, q5⟩ := fpB_parts hp
  refine loc_upd ha h1 (fun s hs => ?_) hk
  rcases q4 s hs with h | h
  · exact .inr h
  · exact .inl (h2 s h)
theorem loc_many (ha : Agrees R σ τ) (hp : fpB cns R W o = true) (hns : ∀ s, R.contains s = true → W.contains s = true) {us : List (Nat × V)} (h1 : ∀ s ∈ us.map (·.1), R.contains s = true ∨ o.dst = some s) (h2 : ∀ d, o.dst = some d → d ∈ us.map (·.1)) (hk : K (updL σ us)) : Loc W σ τ K (updL τ us) := by
  obtain ⟨q1, q2, q3, q4, q5⟩ := fpB_parts hp
  refine loc_upd ha (fun s hs => ?_) (fun s hs => ?_) hk
  · rcases h1 s hs with h | h
    · exact hns s h
    · exact q3 s h
  · rcases q4 s hs with h | h
    · exact .inr h
    · exact .inl (h2 s h)
theorem agr_sub {x : Operand} (ha : Agrees R σ τ) (hx : (opT x).all R.contains = true) : Agrees (opT x) σ τ := fun s hs => ha s (List.all_eq_true.1 hx s (by simpa using hs))
theorem mem_opT {x : Operand} {s : Nat} (hx : (opT x).all R.contains = true) (h : s ∈ opT x) : R.contains s = true := List.all_eq_true.1 hx s h
theorem loc_take (ha : Agrees R σ τ) (hp : fpB cns R W o = true) (hns : ∀ s, R.contains s = true → W.contains s = true) {x : Operand} (hx : (opT x).all R.contains = true) {d : Nat} {v : V} (hd : o.dst = some d) (hk : K (upd (takeS σ x) d v)) : Loc W σ τ K (upd (takeS τ x) d v) := by
  obtain ⟨us, e1, e2, e3⟩ := take_upd σ x
  rw [e3 τ (agr_sub ha hx)]
  rw [e2] at hk
  refine loc_many (us := (d, v) :: us) ha hp hns (fun s hs => ?_) (fun d' h => ?_) hk
  · simp only [List.map_cons, List.mem_cons, e1] at hs
    rcases hs with rfl | hs
    · exact .inr hd
    · exact .inl (mem_opT hx hs)
  · rw [hd] at h; injection h with h; subst h; simp
theorem asgS_loc (ha : Agrees R σ τ) (hp : fpB cns R W o = true) (hns : ∀ s, R.contains s = true → W.contains s = true) {x : Operand} (hx : (opT x).all R.contains = true) (hu : (opT x).all (fun p => bas R (σ p)) = true) {d : Nat} (hd : o.dst = some d) (h : asgS tb o x d σ K) : asgS tb o x d τ (Loc W σ τ K) := by
  unfold asgS at *
  split at h
  · split at h
    · exact loc_one ha hp hd h
    · exact h
  · rename_i p
    have e1 : τ p = σ p := opV_agr ha hx
    rw [e1]
    split at h
    · rename_i hs
      simp only [opT, List.all_cons, List.all_nil, Bool.and_true, hs, bas] at hu
      cases hu
    · exact ⟨h.1, loc_take ha hp hns hx hd h.2⟩
  · rw [opV_agr ha hx]
    exact ⟨h.1, loc_take ha hp hns hx hd h.2⟩
theorem fill_loc (place : Nat → Option (Nat × Nat)) : ∀ (parts : List (Nat × Operand)) (σ σ' : PS) (cs cs' : List V), fillP place parts σ cs = some (σ', cs') → ∃ us : List (Nat × V), (∀ s ∈ us.map (·.1), s ∈ parts.flatMap (fun p => opT p.2)) ∧ σ' = updL σ us ∧ ∀ τ, Agrees (parts.flatMap (fun p => opT p.2)) σ τ → fillP place parts τ cs = some (updL τ us, cs')
  | [], σ, σ', cs, cs', h => by
    simp only [fillP, Option.some.injEq, Prod.mk.injEq] at h
    obtain ⟨rfl, rfl⟩ := h
    exact ⟨[], by simp, rfl, fun τ _ => rfl⟩
  | (i, x) :: parts, σ, σ', cs, cs', h => by
    simp only [fillP] at h
    cases hp : place i with
    | none => rw [hp] at h; cases h
    | some q =>
      obtain ⟨off, sz⟩ := q
      rw [hp] at h
      simp only at h
      split at h
      · rename_i hc
        obtain ⟨us, e1, e2, e3⟩ := fill_loc place parts _ _ _ _ h
        obtain ⟨vs, f1, f2, f3⟩ := take_upd σ x
        refine ⟨us ++ vs, fun s hs => ?_, by rw [e2, f2, updL_app], fun τ ha => ?_⟩
        · rw [List.map_append, List.mem_append] at hs
          rw [List.flatMap_cons, List.mem_append]
          rcases hs with hs | hs
          · exact .inr (e1 s hs)
          · exact .inl (by rw [f1] at hs; exact hs)
        · have hx : opV τ x = opV σ x := by
            cases x with
            | tmp t => exact ha t (by simp [opT])
            | _ => rfl
          have hag : Agrees (opT x) σ τ := fun s hs => ha s (by simp only [List.flatMap_cons, List.contains_eq_mem, List.mem_append, decide_eq_true_eq] at *; exact .inl hs)
          simp only [fillP, hp, hx]
          rw [if_pos hc]
          have hag2 : Agrees (parts.flatMap (fun p => opT p.2)) (takeS σ x) (takeS τ x) := by
            intro s hs
            rw [f2, f3 τ hag]
            by_cases hk : s ∈ vs.map (·.1)
            · exact updL_in hk
            · rw [updL_out hk, updL_out hk]
              exact ha s (by simp only [List.flatMap_cons, List.contains_eq_mem, List.mem_append, decide_eq_true_eq] at *; exact .inr hs)
          rw [e3 _ hag2, f3 τ hag, updL_app]
      · cases h
theorem parts_opT {R : List Nat} {parts : Array (Nat × Operand)} (hx : ((parts.toList.map (·.2)).toArray.toList.flatMap opT).all R.contains = true) : ∀ s ∈ parts.toList.flatMap (fun p => opT p.2), R.contains s = true := by
  intro s hs
  rw [List.all_eq_true] at hx
  refine hx s ?_
  rw [List.mem_flatMap] at hs ⊢
  obtain ⟨p, hp, h⟩ := hs
  exact ⟨p.2, (show p.2 ∈ parts.toList.map (·.2) from List.mem_map_of_mem hp), h⟩
theorem evO_loc (ha : Agrees R σ τ) (hf : fpS cns R W o σ) (h : evO P tb cns o σ K) : evO P tb cns o τ (Loc W σ τ K) := by
  obtain ⟨h1, h2, h3, h4, h5⟩ := fpB_parts hf.1
  have hx := h1
  have hb := hf.2.1
  have hub := hf.2.2
  unfold evO at *
  split at h
  · rename_i x d ho hd
    rw [ho] at hx
    have hcd : ¬ cns.contains d = true := by
      have := hf.1
      simp only [fpB, ho, hd, Bool.and_eq_true] at this
      have := this.2
      simpa using this
    rw [if_neg hcd] at h ⊢
    have hns := gO_none h.1 (h5.resolve_left (by simp [simple, ho]))
    exact ⟨h.1, asgS_loc ha hf.1 hns (by simpa [opdT, Op.operands] using hx) (by simpa [adU, ho] using hub) hd h.2⟩
  · rename_i x d ho hd
    split at h
    · rename_i hc
      rw [if_pos hc]
      have hns := gO_none h.1 (h5.resolve_left (by simp [simple, ho, hd]; simpa using hc))
      rw [ho] at hx
      have hub' : (opT x).all (fun p => bas R (σ p)) = true := by
        simp only [adU, ho, hd] at hub
        rw [if_pos hc] at hub
        exact hub
      exact ⟨h.1, asgS_loc ha hf.1 hns (by simpa [opdT, Op.operands] using hx) hub' hd h.2⟩
    · rename_i hc; rw [if_neg hc]; exact pureS_loc ha hf h
  · rename_i t x d ho hd
    split at h
    · rename_i hc
      rw [if_pos hc]
      have hns := gO_none h.1 (h5.resolve_left (by simp [simple, ho, hd]; simpa using hc))
      rw [ho] at hx hb
      have hx' : (opT x).all R.contains = true := by simpa [opdT, Op.operands] using hx
      have hb' : (opT x).all (fun p => bas R (σ p)) = true := hb
      refine ⟨h.1, ?_⟩
      have h2 := h.2
      unfold loadS at *
      rw [adV_agr ha hx']
      split at h2
      · rename_i dd s off ht hax
        have hs := ha s (base_in hb' hx' hax)
        rw [hs]
        split at h2
        · refine ⟨h2.1, ?_⟩
          refine loc_many (us := [(d, _), (s, _)]) ha hf.1 hns (fun q hq => ?_) (fun d' hd' => ?_) h2.2
          · simp only [List.map_cons, List.map_nil, List.mem_cons, List.not_mem_nil, or_false] at hq
            rcases hq with rfl | rfl
            · exact .inr hd
            · exact .inl (base_in hb' hx' hax)
          · rw [hd] at hd'; injection hd' with hd'; subst hd'; simp
        · exact h2
      · exact ⟨h2.1, loc_one ha hf.1 hd h2.2⟩
      · exact h2
    · rename_i hc; rw [if_neg hc]; exact pureS_loc ha hf h
  · rename_i s i d ho hd
    have hns := gO_none h.1 (h5.resolve_left (by simp [simple, ho]))
    rw [ho] at hx
    have hs : R.contains s = true := by simpa [opdT, Op.operands, opT] using hx
    refine ⟨h.1, ?_⟩
    have h2 := h.2
    unfold extS at *
    rw [ha s hs]
    split at h2
    · split at h2
      · refine ⟨h2.1, loc_many (us := [(d, _), (s, _)]) ha hf.1 hns (fun q hq => ?_) (fun d' hd' => ?_) h2.2⟩
        · simp only [List.map_cons, List.map_nil, List.mem_cons, List.not_mem_nil, or_false] at hq
          rcases hq with rfl | rfl
          · exact .inr hd
          · exact .inl hs
        · rw [hd] at hd'; injection hd' with hd'; subst hd'; simp
      · exact h2
    · exact h2
  · rename_i t x y ho hd
    have hns := gO_none h.1 (h5.resolve_left (by simp [simple, ho]))
    rw [ho] at hx hb
    have hxy : (opT x).all R.contains = true ∧ (opT y).all R.contains = true := by simpa [opdT, Op.operands, List.all_append] using hx
    have hb' : (opT x).all (fun p => bas R (σ p)) = true := hb
    refine ⟨h.1, ?_⟩
    have h2 := h.2
    unfold stoS at *
    rw [adV_agr ha hxy.1, opV_agr ha hxy.2]
    split at h2
    · rename_i dd s off ht hax
      have hsR := base_in hb' hxy.1 hax
      rw [ha s hsR]
      split at h2
      · obtain ⟨q1, q2, q3, q4⟩ := h2
        refine ⟨q1, q2, q3, ?_⟩
        obtain ⟨us, e1, e2, e3⟩ := take_upd σ y
        rw [e3 τ (agr_sub ha hxy.2)]
        rw [e2] at q4
        refine loc_many (us := (s, _) :: us) ha hf.1 hns (fun q hq => ?_) (fun d' hd' => by rw [hd] at hd'; cases hd') q4
        simp only [List.map_cons, List.mem_cons, e1] at hq
        rcases hq with rfl | hq
        · exact .inl hsR
        · exact .inl (mem_opT hxy.2 hq)
      · exact h2
    · exact h2
  · rename_i t d ho hd
    have hdR : R.contains d = true := by
      have := hf.1
      simp only [fpB, ho, hd, Bool.and_eq_true] at this
      simpa using this.2
    refine ⟨h.1, ?_⟩
    have h2 := h.2
    unfold allocS at *
    split at h2
    · exact ⟨by rw [ha d hdR]; exact h2.1, loc_one ha hf.1 hd h2.2⟩
    · exact h2
  · rename_i t x d ho hd; have := hf.1; simp [fpB, ho] at this
  · rename_i t ps d ho hd
    have hW := gO_opd h1 (h5.resolve_left (by simp [simple, ho]))
    rw [ho] at hW
    rw [ho] at hx
    refine grd_loc ha hf hd (fun h2 => ?_) h
    unfold buildS at *
    split at h2
    · split at h2
      · rename_i σ' cs hfl
        obtain ⟨us, e1, e2, e3⟩ := fill_loc _ _ _ _ _ _ hfl
        have hp := parts_opT (R := R) (parts := ps) (by simpa [opdT, Op.operands] using hx)
        have hpW := parts_opT (R := W) (parts := ps) (by simpa [opdT, Op.operands] using hW)
        rw [e3 τ (fun s hs => ha s (hp s (by simpa using hs)))]
        rw [e2] at h2
        refine loc_manyW (us := (d, _) :: us) ha hf.1 (fun q hq => ?_) (fun d' hd' => ?_) h2
        · simp only [List.map_cons, List.mem_cons] at hq
          rcases hq with rfl | hq
          · exact h3 _ hd
          · exact hpW q (e1 q hq)
        · rw [hd] at hd'; injection hd' with hd'; subst hd'; simp
      · exact h2.elim
    · exact h2
  · rename_i t n ps d ho hd
    have hW := gO_opd h1 (h5.resolve_left (by simp [simple, ho]))
    rw [ho] at hW
    rw [ho] at hx
    refine grd_loc ha hf hd (fun h2 => ?_) h
    unfold bslS at *
    split at h2
    · split at h2
      · rename_i σ' cs hfl
        obtain ⟨us, e1, e2, e3⟩ := fill_loc _ _ _ _ _ _ hfl
        have hp := parts_opT (R := R) (parts := ps) (by simpa [opdT, Op.operands] using hx)
        have hpW := parts_opT (R := W) (parts := ps) (by simpa [opdT, Op.operands] using hW)
        rw [e3 τ (fun s hs => ha s (hp s (by simpa using hs)))]
        rw [e2] at h2
        refine ⟨h2.1, h2.2.1, loc_manyW (us := (d, _) :: us) ha hf.1 (fun q hq => ?_) (fun d' hd' => ?_) h2.2.2⟩
        · simp only [List.map_cons, List.mem_cons] at hq
          rcases hq with rfl | hq
          · exact h3 _ hd
          · exact hpW q (e1 q hq)
        · rw [hd] at hd'; injection hd' with hd'; subst hd'; simp
      · exact h2.elim
    · exact h2
  · rename_i t x y d ho hd
    rw [ho] at hx
    have hxy : (opT x).all R.contains = true ∧ (opT y).all R.contains = true := by simpa [opdT, Op.operands, List.all_append] using hx
    have hcd : ¬ cns.contains d = true := by
      have := hf.1
      simp only [fpB, ho, hd, Bool.and_eq_true] at this
      have := this.2
      simpa using this
    rw [if_neg hcd] at h ⊢
    refine ⟨h.1, ?_⟩
    have h2 := h.2
    unfold makeS at *
    rw [opV_agr ha hxy.1, opV_agr ha hxy.2]
    split at h2
    · exact ⟨h2.1, h2.2.1, h2.2.2.1, loc_one ha hf.1 hd h2.2.2.2⟩
    · exact h2
  · rename_i d c ho
    rw [ho] at hx
    have hargs : ∀ x ∈ c.args.toList, (opT x).all R.contains = true := fun x hxm => all_sub (g := opT) hx (by simp only [Op.operands, Call.operands]; simp; exact .inr (by simpa using hxm))
    unfold callS' at *
    split at h
    · rename_i x hcal
      rw [opV_agr ha (all_sub (g := opT) (x := x) hx (by simp only [Op.operands, Call.operands, hcal]; simp))]
      split at h
      · exact callS_loc ha hf hargs h
      · exact h
    · rename_i d' x y t t' hcal hd hargs' hts
      have hW := gO_opd h1 (h5.resolve_left (by simp [simple, ho, hcal]))
      rw [ho] at hW
      have hargsW : ∀ x ∈ c.args.toList, (opT x).all W.contains = true := fun x hxm => all_sub (g := opT) hW (by simp only [Op.operands, Call.operands]; simp; exact .inr (by simpa using hxm))
      have hxW := hargsW x (by rw [hargs']; simp)
      have hyW := hargsW y (by rw [hargs']; simp)
      have hx1 := hargs x (by rw [hargs']; simp)
      have hy1 := hargs y (by rw [hargs']; simp)
      refine grd_loc ha hf hd (fun h2 => ?_) h
      unfold appS at *
      obtain ⟨us, e1, e2, e3⟩ := take_upd σ x
      have hag : Agrees R (takeS σ x) (takeS τ x) := by
        intro s hs
        rw [e2, e3 τ (agr_sub ha hx1)]
        by_cases hk : s ∈ us.map (·.1)
        · exact updL_in hk
        · rw [updL_out hk, updL_out hk]; exact ha s hs
      rw [opV_agr ha hx1, opV_agr hag hy1]
      split at h2
      · obtain ⟨q1, q2, q3, q4, q5⟩ := h2
        refine ⟨q1, q2, q3, q4, ?_⟩
        obtain ⟨vs, f1, f2, f3⟩ := take_upd (takeS σ x) y
        have k1 : takeS (takeS σ x) y = updL σ (vs ++ us) := by rw [f2, e2, updL_app]
        have k2 : takeS (takeS τ x) y = updL τ (vs ++ us) := by rw [f3 _ (agr_sub hag hy1), e3 τ (agr_sub ha hx1), updL_app]
        rw [k1] at q5
        rw [k2]
        refine q5.imp (fun q5 => ?_) (fun q5 => ⟨?_, q5.2⟩)
        · refine loc_manyW (us := (d', _) :: (vs ++ us)) ha hf.1 (fun q hq => ?_) (fun d'' hd' => ?_) q5
          · simp only [List.map_cons, List.map_append, List.mem_cons, List.mem_append, e1, f1] at hq
            rcases hq with rfl | hq | hq
            · exact h3 _ hd
            · exact mem_opT hyW hq
            · exact mem_opT hxW hq
          · rw [hd] at hd'; injection hd' with hd'; subst hd'; simp
        · refine loc_manyW (us := (d', _) :: (d', _) :: (vs ++ us)) ha hf.1 (fun q hq => ?_) (fun d'' hd' => ?_) q5.1
          · simp only [List.map_cons, List.map_append, List.mem_cons, List.mem_append, e1, f1] at hq
            rcases hq with rfl | rfl | hq | hq
            · exact h3 _ hd
            · exact h3 _ hd
            · exact mem_opT hyW hq
            · exact mem_opT hxW hq
          · rw [hd] at hd'; injection hd' with hd'; subst hd'; simp
      · exact h2
    · exact pureS_loc ha hf h
  · rename_i t x f d ho hd
    rw [ho] at hx
    refine grd_loc ha hf hd (fun h2 => ?_) h
    unfold fldS at *
    rw [opV_agr ha (by simpa [opdT, Op.operands] using hx)]
    split at h2
    · split at h2
      · exact loc_one ha hf.1 hd h2
      · exact h2
    · exact h2
  · exact pureS_loc ha hf h
end
end Go.Proofs.Ytmioifafgbjjhaa

namespace Go.Proofs.Ytmioifafgbjjhaa
open Go.RowKit
set_option linter.unusedVariables false

theorem grd_elim {K : PS → Prop} {o : LO} {d : Nat} {σ : PS} {X : (PS → Prop) → Prop} (hX : X K → ∃ σ1, X (fun s => s = σ1) ∧ K σ1) (h : grdS o d σ K (X K)) : ∃ σ1, grdS o d σ (fun s => s = σ1) (X (fun s => s = σ1)) ∧ K σ1 := by
  unfold grdS at *
  split at h
  · exact hX h
  · exact h.elim
  · rename_i q b _
    by_cases hb : isB b (σ q) = true
    · obtain ⟨s, h1, h2⟩ := hX (h.2.1 hb)
      exact ⟨s, ⟨h.1, fun _ => h1, fun e => by rw [hb] at e; cases e⟩, h2⟩
    · exact ⟨_, ⟨h.1, fun e => absurd e hb, fun _ => rfl⟩, h.2.2 (by simpa using hb)⟩
theorem evO_elim {P : Program} {tb : Tb} {cns : List Nat} {K : PS → Prop} {o : LO} {σ : PS} (h : evO P tb cns o σ K) : ∃ σ1, evO P tb cns o σ (fun s => s = σ1) ∧ K σ1 := by
  have hp : ∀ {o : LO} {σ : PS}, pureS tb o σ K → ∃ σ1, pureS tb o σ (fun s => s = σ1) ∧ K σ1 := by
    intro o σ h
    unfold pureS at *
    split at h
    · exact h.elim
    · split at h
      · exact ⟨_, ⟨h.1, rfl⟩, h.2⟩
      · exact h.elim
      · rename_i q b _
        by_cases hb : isB b (σ q) = true
        · exact ⟨_, ⟨h.1, fun e => ⟨(h.2.1 hb).1, rfl⟩, fun e => by rw [hb] at e; cases e⟩, (h.2.1 hb).2⟩
        · exact ⟨_, ⟨h.1, fun e => absurd e hb, fun e => rfl⟩, h.2.2 (by simpa using hb)⟩
  have hc : ∀ {o : LO} {f : FuncId} {args : List Operand} {σ : PS}, callS P o f args σ K → ∃ σ1, callS P o f args σ (fun s => s = σ1) ∧ K σ1 := by
    intro o f args σ h
    unfold callS at *
    split at h
    · exact ⟨_, ⟨h.1, h.2.choose, h.2.choose_spec.1, rfl⟩, h.2.choose_spec.2⟩
    · split at h
      · rename_i b _ _ q d _ _
        by_cases hb : isB b (σ q) = true
        · exact ⟨_, ⟨h.1, fun e => ⟨(h.2.1 hb).1, (h.2.1 hb).2.choose, (h.2.1 hb).2.choose_spec.1, rfl⟩, fun e => by rw [hb] at e; cases e⟩, (h.2.1 hb).2.choose_spec.2⟩
        · exact ⟨_, ⟨h.1, fun e => absurd e hb, fun e => rfl⟩, h.2.2 (by simpa using hb)⟩
      · exact h.elim
  have ha : ∀ {o : LO} {x : Operand} {d : Nat} {σ : PS}, asgS tb o x d σ K → ∃ σ1, asgS tb o x d σ (fun s => s = σ1) ∧ K σ1 := by
    intro o x d σ h
    unfold asgS at *
    split at h
    · split at h
      · exact ⟨_, rfl, h⟩
      · exact h.elim
    · split at h
      · exact ⟨_, rfl, h⟩
      · exact ⟨_, ⟨h.1, rfl⟩, h.2⟩
    · exact ⟨_, ⟨h.1, rfl⟩, h.2⟩
  have hu : ∀ {x : Operand} {d : Nat} {σ : PS}, asgU x d σ K → ∃ σ1, asgU x d σ (fun s => s = σ1) ∧ K σ1 := by
    intro x d σ h
    unfold asgU at *
    split at h
    · split at h
      · exact ⟨_, ⟨h.1, rfl⟩, h.2⟩
      · exact h.elim
    · exact h.elim
  unfold evO at *
  split at h
  · split at h
    · rename_i hc; simp only [if_pos hc]; obtain ⟨s, h1, h2⟩ := hu h.2; exact ⟨s, ⟨h.1, h1⟩, h2⟩
    · rename_i hc; simp only [if_neg hc]; obtain ⟨s, h1, h2⟩ := ha h.2; exact ⟨s, ⟨h.1, h1⟩, h2⟩
  · split at h
    · rename_i hc; simp only [if_pos hc]; obtain ⟨s, h1, h2⟩ := ha h.2; exact ⟨s, ⟨h.1, h1⟩, h2⟩
    · rename_i hc; simp only [if_neg hc]; exact hp h
  · split at h
    · rename_i hc
      simp only [if_pos hc]
      have h0 := h.1
      have h2 := h.2
      unfold loadS at *
      split at h2
      · split at h2
        · exact ⟨_, ⟨h0, h2.1, rfl⟩, h2.2⟩
        · exact h2.elim
      · exact ⟨_, ⟨h0, h2.1, rfl⟩, h2.2⟩
      · exact h2.elim
    · rename_i hc; simp only [if_neg hc]; exact hp h
  · have h0 := h.1
    have h2 := h.2
    unfold extS at *
    split at h2
    · split at h2
      · exact ⟨_, ⟨h0, h2.1, rfl⟩, h2.2⟩
      · exact h2.elim
    · exact h2.elim
  · have h0 := h.1
    have h2 := h.2
    unfold stoS at *
    split at h2
    · split at h2
      · exact ⟨_, ⟨h0, h2.1, h2.2.1, h2.2.2.1, rfl⟩, h2.2.2.2⟩
      · exact h2.elim
    · exact h2.elim
  · have h0 := h.1
    have h2 := h.2
    unfold allocS at *
    split at h2
    · exact ⟨_, ⟨h0, h2.1, rfl⟩, h2.2⟩
    · exact h2.elim
  · exact ⟨_, ⟨h.1, h.2.1, h.2.2.1, rfl⟩, h.2.2.2⟩
  · refine grd_elim (X := fun K => buildS tb _ _ _ σ K) (fun h2 => ?_) h
    unfold buildS at *
    split at h2
    · split at h2
      · exact ⟨_, rfl, h2⟩
      · exact h2.elim
    · exact h2.elim
  · refine grd_elim (X := fun K => bslS tb _ _ _ _ σ K) (fun h2 => ?_) h
    unfold bslS at *
    split at h2
    · split at h2
      · exact ⟨_, ⟨h2.1, h2.2.1, rfl⟩, h2.2.2⟩
      · exact h2.elim
    · exact h2.elim
  · split at h
    · rename_i hc
      simp only [if_pos hc]
      have h0 := h.1
      have h2 := h.2
      unfold makeU at *
      split at h2
      · exact ⟨_, ⟨h0, h2.1, h2.2.1, h2.2.2.1, h2.2.2.2.1, rfl⟩, h2.2.2.2.2⟩
      · exact h2.elim
    · rename_i hc
      simp only [if_neg hc]
      have h0 := h.1
      have h2 := h.2
      unfold makeS at *
      split at h2
      · exact ⟨_, ⟨h0, h2.1, h2.2.1, h2.2.2.1, rfl⟩, h2.2.2.2⟩
      · exact h2.elim
  · unfold callS' at *
    split at h
    · split at h
      · exact hc h
      · exact h.elim
    · refine grd_elim (X := fun K => appS tb _ _ _ _ _ σ K) (fun h2 => ?_) h
      unfold appS at *
      split at h2
      · rcases h2.2.2.2.2 with h3 | h3
        · exact ⟨_, ⟨h2.1, h2.2.1, h2.2.2.1, h2.2.2.2.1, .inl rfl⟩, h3⟩
        · exact ⟨_, ⟨h2.1, h2.2.1, h2.2.2.1, h2.2.2.2.1, .inr ⟨rfl, h3.2⟩⟩, h3.1⟩
      · exact h2.elim
    · exact hp h
  · refine grd_elim (X := fun K => fldS P _ _ _ _ σ K) (fun h2 => ?_) h
    unfold fldS at *
    split at h2
    · split at h2
      · exact ⟨_, rfl, h2⟩
      · exact h2.elim
    · exact h2.elim
  · exact hp h

def evD (P : Program) (tb : Tb) (cns : List Nat) : List (List Nat × List Nat) → List LO → PS → (PS → Prop) → Prop
  | _, [], σ, K => K σ
  | [], _ :: _, _, _ => False
  | (R, W) :: fps, o :: os, σ, K => (adP o.op).all (fun p => bas R (σ p)) = true ∧ (adU cns o).all (fun p => bas R (σ p)) = true ∧ evO P tb cns o σ (fun σ' => evD P tb cns fps os σ' K)
def okF (cns : List Nat) : List (List Nat × List Nat) → List LO → Bool
  | _, [] => true
  | [], _ :: _ => false
  | (R, W) :: fps, o :: os => fpB cns R W o && okF cns fps os
def ancs : List (List Nat) → List (List Nat) → List (List Nat)
  | acc, [] => acc
  | acc, e :: es => ancs (acc ++ [(e ++ e.flatMap (fun k => acc.getD k [])).eraseDups]) es
def meets (a b : List Nat) : Bool := a.any b.contains
def clash (x y : List Nat × List Nat) : Bool := meets x.2 y.1 || meets x.2 y.2 || meets x.1 y.2
def isX (o : LO) : Bool := match o.op, o.g, o.dst with
  | .extract (.tmp _) _, none, some _ => true
  | _, _, _ => false
def exF (ops : List LO) (i : Nat) : Bool := match ops[i]? with
  | some o => isX o
  | none => false
def enf (es : List (List Nat)) (ops : List LO) (i j : Nat) : Bool := exF ops i && exF ops j && es.getD i [] == es.getD j []
def apF (fps : List (List Nat × List Nat)) (ops : List LO) (i j : Nat) : Bool := match (ops[i]?).bind (·.dst) with
  | some d => !((fps.getD j ([], [])).1).contains d && ((ops[j]?).bind (·.dst)) != some d && (match (ops[j]?).bind (·.dst) with
    | some e => !((fps.getD i ([], [])).1).contains e
    | none => true)
  | none => false
def okD (fps : List (List Nat × List Nat)) (es : List (List Nat)) (ops : List LO) : Bool :=
  (fps.length == es.length && (List.range es.length).all fun j => (es.getD j []).all (fun k => decide (k < j)) && (List.range j).all fun i => !clash (fps.getD i ([], [])) (fps.getD j ([], [])) || ((ancs [] es).getD j []).contains i || enf es ops i j) &&
  (List.range es.length).all fun i => !exF ops i || (List.range es.length).all fun j => j == i || (es.getD j []).contains i || ((ancs [] es).getD i []).contains j || apF fps ops i j
theorem ancs_in {X : Nat → Prop} {es0 : List (List Nat)} (hX : ∀ k, X k → ∀ m ∈ es0.getD k [], X m) : ∀ (es acc pre : List (List Nat)), es0 = pre ++ es → pre.length = acc.length →
    (∀ j, (∀ k ∈ es0.getD j [], X k) → ∀ i ∈ acc.getD j [], X i) → ∀ j, (∀ k ∈ es0.getD j [], X k) → ∀ i ∈ (ancs acc es).getD j [], X i
  | [], acc, pre, _, _, h => h
  | e :: es, acc, pre, he, hl, h => by
    unfold ancs
    refine ancs_in hX es _ (pre ++ [e]) (by rw [he]; simp) (by simp [hl]) ?_
    intro j hj i hi
    rcases Nat.lt_trichotomy j acc.length with hlt | heq | hgt
    · refine h j hj i ?_
      simpa [List.getElem?_append_left hlt] using hi
    · subst heq
      have hej : es0.getD acc.length [] = e := by rw [he]; simp [← hl]
      rw [hej] at hj
      have hi' : i ∈ (e ++ e.flatMap (fun k => acc.getD k [])).eraseDups := by simpa using hi
      rw [List.mem_eraseDups, List.mem_append, List.mem_flatMap] at hi'
      rcases hi' with hi' | ⟨k, hk, hi'⟩
      · exact hj i hi'
      · exact h k (hX k (hj k hk)) i hi'
    · exfalso
      have : (acc ++ [(e ++ e.flatMap (fun k => acc.getD k [])).eraseDups])[j]? = none := List.getElem?_eq_none (by simp; omega)
      rw [List.getD_eq_getElem?_getD, this] at hi
      simp at hi
theorem countP_less {α : Type} {p q : α → Bool} (h : ∀ x, p x = true → q x = true) : ∀ {l : List α} {x : α}, x ∈ l → q x = true → p x = false → l.countP p < l.countP q
  | [], _, hx, _, _ => by simp at hx
  | y :: l, x, hx, h1, h2 => by
    have hle : l.countP p ≤ l.countP q := List.countP_mono_left (fun x _ => h x)
    rw [List.countP_cons, List.countP_cons]
    rcases List.mem_cons.1 hx with rfl | hx
    · rw [h1, h2]; simp; omega
    · have := countP_less h hx h1 h2
      have h3 : (if p y = true then 1 else 0) ≤ (if q y = true then 1 else 0) := by
        split
        · rename_i hp; rw [if_pos (h y hp)]; exact Nat.le_refl 1
        · exact Nat.zero_le _
      omega
def mix (s : Nat → PS) (W : Nat → List Nat) (X : Nat → Bool) : Nat → PS
  | 0 => s 0
  | m + 1 => if X m = true then pt (W m) (s (m + 1)) (mix s W X m) else mix s W X m
section
variable {s : Nat → PS} {R W : Nat → List Nat} {X : Nat → Bool} {n i : Nat}
theorem mix_stay {q : Nat} : ∀ {m k : Nat}, m ≤ k → (∀ j, m ≤ j → j < k → X j = true → (W j).contains q = false) → mix s W X k q = mix s W X m q := by
  intro m k hmk h
  induction k with
  | zero => have : m = 0 := by omega
            subst this; rfl
  | succ k ih =>
    rcases Nat.lt_or_ge k m with hlt | hge
    · have : m = k + 1 := by omega
      subst this; rfl
    · rw [← ih hge (fun j h1 h2 => h j h1 (by omega))]
      simp only [mix]
      split
      · rename_i hx
        have := h k hge (by omega) hx
        simp only [pt]
        rw [if_neg (by rw [this]; exact Bool.false_ne_true)]
      · rfl
theorem mix_at {q : Nat} (hloc : ∀ m, m < n → ∀ q, (W m).contains q = false → s (m + 1) q = s m q) : ∀ {m : Nat}, m ≤ n → (∀ j, j < m → (W j).contains q = true → X j = true) → mix s W X m q = s m q := by
  intro m hm h
  induction m with
  | zero => rfl
  | succ m ih =>
    have ih := ih (by omega) (fun j hj => h j (by omega))
    simp only [mix]
    by_cases hw : (W m).contains q = true
    · rw [if_pos (h m (by omega) hw)]
      simp only [pt]
      rw [if_pos hw]
    · have hw' : (W m).contains q = false := by simpa using hw
      split
      · simp only [pt]; rw [if_neg hw, ih, hloc m (by omega) q hw']
      · rw [ih, hloc m (by omega) q hw']
theorem mix_set (hi : i < n) (hlater : ∀ j q, i < j → j < n → (W i).contains q = true → (W j).contains q = true → X j = false) (X' : Nat → Bool) (hX' : ∀ j, X' j = (X j || j == i)) :
    mix s W X' n = pt (W i) (s (i + 1)) (mix s W X n) := by
  funext q
  have hne : ∀ j, j ≠ i → X' j = X j := fun j hj => by rw [hX']; simp [hj]
  have hii : X' i = true := by rw [hX']; simp
  have hpre : ∀ m, m ≤ i → mix s W X' m = mix s W X m := by
    intro m
    induction m with
    | zero => intro _; rfl
    | succ m ih => intro hm; simp only [mix]; rw [hne m (by omega), ih (by omega)]
  simp only [pt]
  by_cases hw : (W i).contains q = true
  · rw [if_pos hw, mix_stay (m := i + 1) (by omega) (fun j h1 h2 hx => ?_)]
    · simp only [mix, if_pos hii, pt, if_pos hw]
    · cases hwj : (W j).contains q
      · rfl
      · rw [hne j (by omega), hlater j q (by omega) h2 hw hwj] at hx; cases hx
  · rw [if_neg hw]
    have : ∀ m, m ≤ n → mix s W X' m q = mix s W X m q := by
      intro m
      induction m with
      | zero => intro _; rfl
      | succ m ih =>
        intro hm
        have ih := ih (by omega)
        simp only [mix]
        by_cases hmi : m = i
        · subst hmi
          rw [if_pos hii]
          simp only [pt]
          rw [if_neg hw, ih]
          split
          · simp only [pt]; rw [if_neg hw]
          · rfl
        · rw [hne m hmi]
          split
          · simp only [pt]; split
            · rfl
            · exact ih
          · exact ih
    exact this n (Nat.le_refl _)
end
section
variable {P : Program} {tb : Tb} {nt : Nat} {bx cns : List Nat} {σ : PS} {K : PS → Prop}
theorem evD_run : ∀ {fps : List (List Nat × List Nat)} {os : List LO} {σ : PS}, okF cns fps os = true → evD P tb cns fps os σ K →
    ∃ s : Nat → PS, s 0 = σ ∧ K (s os.length) ∧ ∀ i o, os[i]? = some o → fpS cns (fps.getD i ([], [])).1 (fps.getD i ([], [])).2 o (s i) ∧ evO P tb cns o (s i) (fun σ' => σ' = s (i + 1))
  | fps, [], σ, _, h => ⟨fun _ => σ, rfl, by simpa [evD] using h, fun i o hi => by simp at hi⟩
  | [], _ :: _, _, _, h => h.elim
  | (R, W) :: fps, o :: os, σ, hk, h => by
    simp only [okF, Bool.and_eq_true] at hk
    obtain ⟨hf, hf', h⟩ := h
    replace hf : fpS cns R W o σ := ⟨hk.1, hf, hf'⟩
    obtain ⟨σ1, h1, h2⟩ := evO_elim h
    obtain ⟨s, s0, sk, hs⟩ := evD_run hk.2 h2
    refine ⟨fun i => match i with | 0 => σ | i + 1 => s i, rfl, by simpa using sk, fun i o' hi => ?_⟩
    cases i with
    | zero =>
      simp only [List.getElem?_cons_zero, Option.some.injEq] at hi
      subst hi
      refine ⟨by simpa using hf, ?_⟩
      show evO P tb cns o σ (fun σ' => σ' = s 0)
      rw [s0]; exact h1
    | succ i => simpa using hs i o' (by simpa using hi)
theorem rel_drawn {base : Nat} {St0 : Nat → Nat → Prop} {w0 w : World} {a : Act} {k : Nat} (hr : Rel P nt bx base St0 w0 σ a w) : Rel P nt bx base St0 w0 σ a { w with drawn := k } := by
  obtain ⟨St, B, h, hb, hst, hz⟩ := hr
  exact ⟨St, B, h.world (fun _ _ h => h) (fun _ _ _ => rfl) (Nat.le_refl _) (fun _ _ _ => ⟨rfl, fun _ => Iff.rfl⟩) h.st, ⟨hb.os, hb.tape, hb.output, hb.size, hb.block⟩, hst, hz⟩
theorem edg_at {ops : Array Oper} {j : Nat} {o : Oper} (ho : ops[j]? = some o) : (ops.toList.map edg).getD j [] = edg o := by
  rw [List.getD_eq_getElem?_getD, List.getElem?_map, Array.getElem?_toList, ho]; rfl
theorem meets_of {a b : List Nat} {q : Nat} (h1 : a.contains q = true) (h2 : b.contains q = true) : meets a b = true := by
  unfold meets
  rw [List.any_eq_true]
  exact ⟨q, by simpa using h1, h2⟩
theorem getD_set {l : Array Bool} {i j : Nat} (hi : i < l.size) : (l.setIfInBounds i true).getD j false = (l.getD j false || j == i) := by
  by_cases h : i = j
  · subst h; simp [hi]
  · rw [getD_set_ne false h]
    have : (j == i) = false := by simp; omega
    rw [this, Bool.or_false]
theorem drw_any (htb : TbOk P tb) {ops : Array Oper} {fps : List (List Nat × List Nat)} {s : Nat → PS} (hok : ops.toList.all (okOp nt bx) = true) (hA : (ops.toList.map (liteO ops)).all (okA bx cns) = true) (hD : okD fps (ops.toList.map edg) (ops.toList.map (liteO ops)) = true)
    (hs : ∀ i o, (ops.toList.map (liteO ops))[i]? = some o → fpS cns (fps.getD i ([], [])).1 (fps.getD i ([], [])).2 o (s i) ∧ evO P tb cns o (s i) (fun σ' => σ' = s (i + 1)))
    {base : Nat} {St0 : Nat → Nat → Prop} {w0 : World} {Q : Exit → Act → World → Prop} (hQ : ∀ a w, Rel P nt bx base St0 w0 (s ops.size) a w → Q .normal a w) (hP : ∀ c a w, ¬ Q (.panic c) a w) :
    ∀ (fuel : Nat) (listed : Array Bool) (a : Act) (w : World), listed.size = ops.size → ((List.range ops.size).countP (fun i => !listed.getD i false)) ≤ fuel →
      (∀ k, listed.getD k false = true → ∀ m ∈ (ops.toList.map edg).getD k [], listed.getD m false = true) →
      (∀ i k, i < k → k < ops.size → enf (ops.toList.map edg) (ops.toList.map (liteO ops)) i k = true → listed.getD k false = true → listed.getD i false = true) →
      Rel P nt bx base St0 w0 (mix s (fun i => (fps.getD i ([], [])).2) (fun i => listed.getD i false) ops.size) a w → wpAny P .any ops Q fuel listed a w := by
  have hD' := hD
  simp only [okD, Bool.and_eq_true, List.all_eq_true, List.mem_range, List.length_map, Array.length_toList, decide_eq_true_eq, Bool.or_eq_true, Bool.not_eq_true'] at hD'
  obtain ⟨⟨hlen, hD'⟩, hX'⟩ := hD'
  have hless : ∀ j, j < ops.size → ∀ k ∈ (ops.toList.map edg).getD j [], k < j := fun j hj => (hD' j hj).1
  have hcl : ∀ i j, i < j → j < ops.size → clash (fps.getD i ([], [])) (fps.getD j ([], [])) = true → ((ancs [] (ops.toList.map edg)).getD j []).contains i = true ∨ enf (ops.toList.map edg) (ops.toList.map (liteO ops)) i j = true := by
    intro i j hij hj hc
    rcases (hD' j hj).2 i hij with (h | h) | h
    · rw [h] at hc; cases hc
    · exact .inl h
    · exact .inr h
  have hop : ∀ i, i < ops.size → ∃ o, ops[i]? = some o ∧ (ops.toList.map (liteO ops))[i]? = some (liteO ops o) ∧ okOp nt bx o = true := by
    intro i hi
    refine ⟨ops[i], by simp [hi], by simp [hi], ?_⟩
    rw [List.all_eq_true] at hok
    exact hok _ (by simp)
  have hloc : ∀ m, m < ops.size → ∀ q, ((fps.getD m ([], [])).2).contains q = false → s (m + 1) q = s m q := by
    intro m hm q hq
    obtain ⟨o, h1, h2, h3⟩ := hop m hm
    obtain ⟨hf, he⟩ := hs m _ h2
    obtain ⟨σ1, -, σ', rfl, -, hl⟩ := evO_elim (evO_loc (τ := s m) (fun _ _ => rfl) hf he)
    exact hl q hq
  have htf : ∀ {listed : Array Bool} {j : Nat}, listed.size = ops.size → j < ops.size → listed.getD j true = listed.getD j false := by
    intro listed j hsz hj
    simp only [Array.getD_eq_getD_getElem?]
    rw [Array.getElem?_eq_getElem (by omega)]; rfl
  have hall : ∀ listed : Array Bool, listed.size = ops.size → Region.ready .any ops listed = [] → ∀ j, j < ops.size → listed.getD j false = true := by
    intro listed hsz hr j
    induction j using Nat.strongRecOn with
    | _ j ihj =>
      intro hj
      cases hx : listed.getD j false
      · exfalso
        obtain ⟨o, h1, h2, h3⟩ := hop j hj
        have : j ∈ Region.ready .any ops listed := by
          rw [mem_ready]
          refine ⟨by rw [htf hsz hj]; exact hx, o, h1, fun e he hb => ?_⟩
          have hm : e.on ∈ (ops.toList.map edg).getD j [] := by
            rw [edg_at h1]
            exact List.mem_map_of_mem (List.mem_filter.2 ⟨by simpa using he, hb⟩)
          have := hless j hj _ hm
          exact ihj _ this (by omega)
        rw [hr] at this
        simp at this
      · rfl
  have hend : ∀ listed : Array Bool, (∀ j, j < ops.size → listed.getD j false = true) → mix s (fun i => (fps.getD i ([], [])).2) (fun i => listed.getD i false) ops.size = s ops.size := fun listed h => by
    funext q
    exact mix_at (n := ops.size) hloc (Nat.le_refl _) (fun j hj _ => h j hj)
  have hnil : ∀ listed : Array Bool, listed.size = ops.size → (∀ j, j < ops.size → listed.getD j false = true) → Region.ready .any ops listed = [] := by
    intro listed hsz h
    rw [List.eq_nil_iff_forall_not_mem]
    intro j hj
    rw [mem_ready] at hj
    obtain ⟨h0, o, ho, _⟩ := hj
    have hlt : j < ops.size := (Array.getElem?_eq_some_iff.1 ho).1
    rw [htf hsz hlt, h j hlt] at h0
    cases h0
  have hsel : ∀ (j : Nat) (o : Oper) cs b, ops[j]? = some o → o.op ≠ .select cs b := by
    intro j o cs b ho he
    obtain ⟨hf, _⟩ := hs j (liteO ops o) (by simp [ho])
    have hB := hf.1
    have e1 : (liteO ops o).op = .select cs b := he
    simp [fpB, e1] at hB
  intro fuel
  induction fuel with
  | zero =>
    intro listed a w hsz hcnt hclo hcl2 hr
    have hl : ∀ j, j < ops.size → listed.getD j false = true := by
      intro j hj
      have h0 := List.countP_eq_zero.1 (Nat.le_zero.1 hcnt) j (List.mem_range.2 hj)
      simpa using h0
    refine ⟨hnil listed hsz hl, hQ a w ?_⟩
    rw [hend listed hl] at hr
    exact hr
  | succ fuel ih =>
    intro listed a w hsz hcnt hclo hcl2 hr
    have hanc : ∀ j, (∀ k ∈ (ops.toList.map edg).getD j [], listed.getD k false = true) → ∀ m ∈ (ancs [] (ops.toList.map edg)).getD j [], listed.getD m false = true :=
      ancs_in (X := fun k => listed.getD k false = true) hclo _ [] [] rfl rfl (fun j _ m hm => by simp at hm)
    have hrdy : ∀ i, i ∈ Region.ready .any ops listed → i < ops.size ∧ listed.getD i false = false ∧ ∀ k ∈ (ops.toList.map edg).getD i [], listed.getD k false = true := by
      intro i hi
      rw [mem_ready] at hi
      obtain ⟨h0, o, ho, hedge⟩ := hi
      have hlt : i < ops.size := (Array.getElem?_eq_some_iff.1 ho).1
      rw [htf hsz hlt] at h0
      refine ⟨hlt, h0, fun k hk => ?_⟩
      rw [edg_at ho] at hk
      obtain ⟨e, he, rfl⟩ := List.mem_map.1 hk
      rw [List.mem_filter] at he
      exact hedge e (by simpa using he.1) he.2
    -- one operation
    have step : ∀ i, i ∈ Region.ready .any ops listed → (∀ m, m < i → enf (ops.toList.map edg) (ops.toList.map (liteO ops)) m i = true → listed.getD m false = true) → ∀ o, ops[i]? = some o →
        Agrees (fps.getD i ([], [])).1 (s i) (mix s (fun i => (fps.getD i ([], [])).2) (fun i => listed.getD i false) ops.size) ∧
        (if Region.wanted o (yielded ops a.tmps) then o.wp P a w (wpAny P .any ops Q fuel (listed.setIfInBounds i true)) Q else wpAny P .any ops Q fuel (listed.setIfInBounds i true) (a.put o.dst undef) w) := by
      intro i hi henf o ho
      obtain ⟨hlt, h0, hes⟩ := hrdy i hi
      obtain ⟨o', h1, h2, h3⟩ := hop i hlt
      rw [ho] at h1
      simp only [Option.some.injEq] at h1
      subst h1
      obtain ⟨hf, he⟩ := hs i _ h2
      have hbef : ∀ m, m < i → clash (fps.getD m ([], [])) (fps.getD i ([], [])) = true → listed.getD m false = true := fun m hm hc => by
        rcases hcl m i hm hlt hc with h | h
        · exact hanc i hes m (by simpa using h)
        · exact henf m hm h
      have haft : ∀ m, i < m → m < ops.size → clash (fps.getD i ([], [])) (fps.getD m ([], [])) = true → listed.getD m false = false := by
        intro m hm hmn hc
        cases hx : listed.getD m false
        · rfl
        · rcases hcl i m hm hmn hc with h | h
          · have := hanc m (hclo m hx) i (by simpa using h)
            rw [h0] at this; cases this
          · have := hcl2 i m hm hmn h hx
            rw [h0] at this; cases this
      have hag : Agrees (fps.getD i ([], [])).1 (s i) (mix s (fun i => (fps.getD i ([], [])).2) (fun i => listed.getD i false) ops.size) := by
        intro q hq
        rw [mix_stay (m := i) (by omega) (fun j h1 h2 hx => ?_)]
        · exact mix_at (n := ops.size) hloc (by omega) (fun j hj hw => hbef j hj (by simp only [clash, meets_of hw hq, Bool.true_or]))
        · rcases Nat.lt_or_ge i j with hij | hij
          · cases hw : ((fps.getD j ([], [])).2).contains q
            · rfl
            · rw [haft j hij h2 (by simp only [clash, meets_of hq hw, Bool.or_true])] at hx; cases hx
          · have : j = i := by omega
            subst this
            rw [h0] at hx; cases hx
      refine ⟨hag, ?_⟩
      have hAo : okA bx cns (liteO ops o) = true := List.all_eq_true.1 hA _ (List.mem_of_getElem? h2)
      have hst := evO_sound (nt := nt) (bx := bx) htb h3 hAo (evO_loc hag hf he) base St0 w0 a w Q hr
      have hnext : ∀ a' w', (∃ σ', Loc (fps.getD i ([], [])).2 (s i) (mix s (fun i => (fps.getD i ([], [])).2) (fun i => listed.getD i false) ops.size) (fun σ' => σ' = s (i + 1)) σ' ∧ Rel P nt bx base St0 w0 σ' a' w') →
          wpAny P .any ops Q fuel (listed.setIfInBounds i true) a' w' := by
        rintro a' w' ⟨σ', ⟨σ1, rfl, rfl, -⟩, hr'⟩
        have hX' : ∀ j, (listed.setIfInBounds i true).getD j false = (listed.getD j false || j == i) := fun j => getD_set (by omega)
        refine ih _ a' w' (by simp [hsz]) ?_ ?_ ?_ ?_
        · have : (List.range ops.size).countP (fun j => !(listed.setIfInBounds i true).getD j false) < (List.range ops.size).countP (fun j => !listed.getD j false) := by
            refine countP_less (fun j hj => ?_) (x := i) (List.mem_range.2 hlt) (by simp only [h0]; rfl) (by rw [hX']; simp)
            rw [hX'] at hj
            revert hj
            cases listed.getD j false <;> simp
          omega
        · intro k hk m hm
          rw [hX'] at hk
          rw [hX']
          rw [Bool.or_eq_true] at hk
          rcases hk with hk | hk
          · rw [hclo k hk m hm]; rfl
          · have : k = i := by simpa using hk
            subst this
            rw [hes m hm]; rfl
        · intro m k hmk hk hen hx
          rw [hX'] at hx ⊢
          rw [Bool.or_eq_true] at hx
          rcases hx with hx | hx
          · rw [hcl2 m k hmk hk hen hx]; rfl
          · have : k = i := by simpa using hx
            subst this
            rw [henf m hmk hen]; rfl
        · rw [mix_set (X := fun j => listed.getD j false) hlt (fun j q h1 h2 hw hwj => haft j h1 h2 (by simp only [clash, meets_of hw hwj, Bool.or_true, Bool.true_or])) _ hX']
          exact hr'
      split
      · rename_i hw
        rw [if_pos hw] at hst
        exact Oper.wp_mono hnext hst
      · rename_i hw
        rw [if_neg hw] at hst
        exact hnext _ _ hst
    by_cases hex : ∃ i, exF (ops.toList.map (liteO ops)) i = true ∧ i ∈ Region.ready .any ops listed
    · -- the first of the parts that are ready
      obtain ⟨i, ⟨hxi, hi⟩, hleast⟩ : ∃ i, (exF (ops.toList.map (liteO ops)) i = true ∧ i ∈ Region.ready .any ops listed) ∧ ∀ j, j < i → ¬ (exF (ops.toList.map (liteO ops)) j = true ∧ j ∈ Region.ready .any ops listed) := by
        obtain ⟨i, hi⟩ := hex
        induction i using Nat.strongRecOn with
        | _ i ihi =>
          by_cases h : ∃ j, j < i ∧ (exF (ops.toList.map (liteO ops)) j = true ∧ j ∈ Region.ready .any ops listed)
          · obtain ⟨j, hj, hj2⟩ := h
            exact ihi j hj hj2
          · exact ⟨i, hi, fun j hj hj2 => h ⟨j, hj, hj2⟩⟩
      obtain ⟨hlt, h0, hes⟩ := hrdy i hi
      obtain ⟨o, ho, h2, h3⟩ := hop i hlt
      have henf : ∀ m, m < i → enf (ops.toList.map edg) (ops.toList.map (liteO ops)) m i = true → listed.getD m false = true := by
        intro m hm hen
        simp only [enf, Bool.and_eq_true, beq_iff_eq] at hen
        cases hx : listed.getD m false
        · exfalso
          refine hleast m hm ⟨hen.1.1, ?_⟩
          obtain ⟨om, hom, _⟩ := hop m (by omega)
          rw [mem_ready]
          refine ⟨by rw [htf hsz (by omega)]; exact hx, om, hom, fun e he hb => ?_⟩
          have hm2 : e.on ∈ (ops.toList.map edg).getD m [] := by
            rw [edg_at hom]
            exact List.mem_map_of_mem (List.mem_filter.2 ⟨by simpa using he, hb⟩)
          rw [hen.2] at hm2
          exact hes _ hm2
        · rfl
      obtain ⟨hag, hst⟩ := step i hi henf o ho
      obtain ⟨hf, he⟩ := hs i _ h2
      have hX := hxi
      simp only [exF, h2] at hX
      unfold isX at hX
      split at hX
      · rename_i sl ix d hop' hg' hd'
        have hop2 : o.op = .extract (.tmp sl) ix := hop'
        have hg2 : o.guard = none := by
          have : (liteO ops o).g = none := hg'
          simpa [liteO] using this
        have hd2 : o.dst = some d := hd'
        have hw : Region.wanted o (yielded ops a.tmps) = true := by simp [Region.wanted, hg2]
        rw [if_pos hw] at hst
        -- the value
        have hval : ∃ u, ∀ w', (execOp a.eval o).run P w' = .ok (.value u) w' := by
          have hev := evO_loc hag hf he
          simp only [evO, hop', hd'] at hev
          have hev := hev.2
          unfold extS at hev
          split at hev
          · rename_i cs hcs
            split at hev
            · rename_i c hc
              obtain ⟨St, B, hS, _⟩ := hr
              have hsl := hS.slot sl
              rw [hcs] at hsl
              obtain ⟨us, e1, h1⟩ := hsl
              obtain ⟨u, b1, b2, h2', _⟩ := OwTup.split cs ix h1 hc hev.1 (hS.nodup sl)
              refine ⟨u, fun w' => ?_⟩
              have e2 : a.eval (.tmp sl) = .tuple us.toArray := e1
              simp [execOp, hop2, e2, Instr.extract, h2']
            · exact hev.elim
          · exact hev.elim
        obtain ⟨u, hu⟩ := hval
        have hfin : wpAny P .any ops Q fuel (listed.setIfInBounds i true) (a.put o.dst u) w := by
          have := hst
          unfold Oper.wp at this
          rw [hu w] at this
          exact this
        refine wpAny_first ho hsel (fun c a w h => absurd h (hP _ _ _)) fuel listed a w ?_ hi (.inl ⟨hw, hu⟩) hfin
        intro j oj hoj hji hun hno
        have hjn : j < ops.size := (Array.getElem?_eq_some_iff.1 hoj).1
        rw [htf hsz hjn] at hun
        have hxx := (hX' i hlt).resolve_left (by rw [hxi]; simp) j hjn
        have hlj : (ops.toList.map (liteO ops))[j]? = some (liteO ops oj) := by simp [hoj]
        rcases hxx with ((h | h) | h) | h
        · exact absurd (by simpa using h) hji
        · exfalso
          have hm2 : i ∈ (ops.toList.map edg).getD j [] := by simpa using h
          rw [edg_at hoj] at hm2
          obtain ⟨e, he, hei⟩ := List.mem_map.1 hm2
          rw [List.mem_filter] at he
          exact hno e (by simpa using he.1) he.2 hei
        · exfalso
          have := hanc i hes j (by simpa using h)
          rw [hun] at this; cases this
        · simp only [apF, h2, hlj, Option.bind_some] at h
          have hdl : (liteO ops o).dst = some d := hd2
          rw [hdl] at h
          simp only [Bool.and_eq_true, Bool.not_eq_true', bne_iff_ne, ne_eq] at h
          obtain ⟨⟨q1, q2⟩, q3⟩ := h
          obtain ⟨hfj, _⟩ := hs j _ hlj
          have hlook : ∀ (k : Nat) (ok : Oper), ops[k]? = some ok → (ops.toList.map (liteO ops))[k]? = some (liteO ops ok) → ∀ t ∈ ok.looksAt ops, ((fps.getD k ([], [])).1).contains t = true := by
            intro k ok hok' hlk t ht
            obtain ⟨hfk, _⟩ := hs k _ hlk
            have hB := hfk.1
            simp only [fpB, Bool.and_eq_true] at hB
            obtain ⟨⟨⟨⟨⟨b1, b2⟩, _⟩, _⟩, _⟩, _⟩ := hB
            unfold Oper.looksAt at ht
            rcases List.mem_append.1 ht with ht | ht
            · obtain ⟨x, hx1, hx2⟩ := List.mem_filterMap.1 ht
              cases x <;> simp only [Option.some.injEq, reduceCtorEq] at hx2
              subst hx2
              rw [List.all_eq_true] at b1
              exact b1 _ (by
                unfold opdT
                exact List.mem_flatMap.2 ⟨_, hx1, by simp [opT]⟩)
            · cases hgk : ok.guard with
              | none => rw [hgk] at ht; simp at ht
              | some p =>
                rw [hgk] at ht
                simp only [Option.mem_toList] at ht
                rw [List.all_eq_true] at b2
                refine b2 t ?_
                have : (liteO ops ok).g = some (gD ops p.1, p.2) := by simp [liteO, hgk]
                unfold gT
                rw [this]
                have e3 : gD ops p.1 = some t := by simpa [gD] using ht
                rw [e3]
                simp
          simp only [Oper.apart, hd2]
          have r1 : d ∉ oj.looksAt ops := fun hm => by rw [hlook j oj hoj hlj d hm] at q1; cases q1
          have r2 : oj.dst ≠ some d := q2
          cases hdj : oj.dst with
          | none => simp [r1]
          | some d' =>
            have hdl' : (liteO ops oj).dst = some d' := hdj
            rw [hdl'] at q3
            have r3 : d' ∉ o.looksAt ops := fun hm => by simp only [hlook i o ho h2 d' hm] at q3; cases q3
            have r4 : d' ≠ d := fun e => r2 (by rw [hdj, e])
            simp [r1, r3, r4]
      · cases hX
    · have hnx : ∀ i, i ∈ Region.ready .any ops listed → exF (ops.toList.map (liteO ops)) i = false := fun i hi => by
        cases hx : exF (ops.toList.map (liteO ops)) i
        · rfl
        · exact absurd ⟨i, hx, hi⟩ hex
      refine ⟨fun h0 => hQ a w (by rw [hend listed (hall listed hsz h0)] at hr; exact hr), fun i hi => ?_⟩
      obtain ⟨hlt, _⟩ := hrdy i hi
      obtain ⟨o, ho, _⟩ := hop i hlt
      have := (step i hi (fun m _ hen => by simp only [enf, Bool.and_eq_true] at hen; rw [hnx i hi] at hen; cases hen.1.2) o ho).2
      unfold wpOp
      rw [ho]
      simp only
      split
      · rename_i hw; rw [if_pos hw] at this; exact .inl this
      · rename_i hw; rw [if_neg hw] at this; exact this
theorem ls_drw (htb : TbOk P tb) (hm : P.follows .mixedOrders = true) {fps : List (List Nat × List Nat)} {es : List (List Nat)} {ops : List LO} {Q : Exit → PS → Prop} (hD : (okD fps es ops && okF cns fps ops) = true) (h : evD P tb cns fps ops σ (Q .normal)) : LS P nt bx (.drw cns fps es ops) σ Q := by
  intro c hc hok hL
  cases c <;> first | cases hc | skip
  rename_i id ops' d
  simp only [liteC, erC] at hc
  split at hc
  · rename_i hd
    simp only [LC.drw.injEq, true_and] at hc
    subst hd
    obtain ⟨rfl, rfl⟩ := hc
    intro base St0 w0 a w hr
    rw [Bool.and_eq_true] at hD
    obtain ⟨s, s0, sk, hs⟩ := evD_run hD.2 h
    refine wp_mono (Q := fun e a' w' => e = .normal ∧ ∃ σ', Q .normal σ' ∧ Rel P nt bx base St0 w0 σ' a' w') ?_ (fun e a' w' h => by obtain ⟨rfl, h⟩ := h; exact h)
    refine wp_region_any hm (drw_any htb hok hL hD.1 hs (fun a' w' hr' => ⟨rfl, _, by simpa using sk, hr'⟩) (fun c a w h => by cases h.1) _ _ a _ (by simp) ?_ (fun k hk => ?_) (fun i k hik hk hen hx => ?_) ?_)
    · have := List.countP_le_length (p := fun i => !(Array.replicate ops'.size false).getD i false) (l := List.range ops'.size)
      simpa using this
    · exfalso
      simp [Array.getElem?_replicate] at hk
      split at hk <;> simp at hk
    · exfalso
      simp [Array.getElem?_replicate] at hx
      split at hx <;> simp at hx
    · have : mix s (fun i => (fps.getD i ([], [])).2) (fun i => (Array.replicate ops'.size false).getD i false) ops'.size = s 0 := by
        funext q
        refine mix_stay (m := 0) (by omega) (fun j _ hj hx => ?_)
        exfalso
        simp [hj] at hx
      rw [this, s0]
      exact rel_drawn hr
  · cases hc
end
section
variable {P : Program} {nt : Nat} {bx : List Nat} {σ : PS} {Q : Exit → PS → Prop} {tb : Tb}
end
end Go.Proofs.Ytmioifafgbjjhaa

namespace Go.Proofs.Ytmioifafgbjjhaa
open Go.RowKit
set_option linter.unusedVariables false
section
variable {P : Program}
def Zc (P : Program) (c : V) (u : Value) : Prop := c.isCell = true ∧ ∀ w St, Ow P w St c u []
theorem zc_int (k : IntKind) : Zc P (.int k 0) (.int k 0) := ⟨rfl, fun _ _ => ⟨rfl, rfl⟩⟩
theorem zc_bool : Zc P (.bool false) (.bool false) := ⟨rfl, fun _ _ => ⟨rfl, rfl⟩⟩
theorem zc_str : Zc P (.str []) (.string ⟨#[]⟩) := ⟨rfl, fun _ _ => ⟨rfl, rfl, Nat.zero_le _⟩⟩
theorem zc_own (e : TypeId) : Zc P (.own e 0 []) (.slice none 0 0) := ⟨rfl, fun _ _ => nil_ow e⟩
theorem zl_nil : ZL P [] [] := fun _ _ => ⟨rfl, rfl⟩
theorem zl_cons {c : V} {cs : List V} {u : Value} {us : List Value} (h : Zc P c u) (hs : ZL P cs us) : ZL P (c :: cs) (u :: us) := fun w St => ⟨u, us, [], [], rfl, rfl, h.1, h.2 w St, hs w St⟩
theorem agr_int {t : TypeId} (k : IntKind) (hi : (P.info? t).map (fun i => (i.size, i.zero)) = some (1, some (.int k 0))) (hu : P.underlying t = some (.int k)) : Agr P t (.sc (.int k 0)) := by
  obtain ⟨i, h1, h2⟩ := Option.map_eq_some_iff.1 hi
  simp only [Prod.mk.injEq] at h2
  exact ⟨i, _, _, h1, h2.1, h2.2, zl_cons (zc_int k) zl_nil, hu, rfl⟩
theorem agr_bool {t : TypeId} (hi : (P.info? t).map (fun i => (i.size, i.zero)) = some (1, some (.bool false))) (hu : P.underlying t = some .bool) : Agr P t (.sc (.bool false)) := by
  obtain ⟨i, h1, h2⟩ := Option.map_eq_some_iff.1 hi
  simp only [Prod.mk.injEq] at h2
  exact ⟨i, _, _, h1, h2.1, h2.2, zl_cons zc_bool zl_nil, hu, rfl⟩
theorem agr_str {t : TypeId} (hi : (P.info? t).map (fun i => (i.size, i.zero)) = some (1, some (.string ⟨#[]⟩))) (hu : P.underlying t = some .string) : Agr P t (.sc (.str [])) := by
  obtain ⟨i, h1, h2⟩ := Option.map_eq_some_iff.1 hi
  simp only [Prod.mk.injEq] at h2
  exact ⟨i, _, _, h1, h2.1, h2.2, zl_cons zc_str zl_nil, hu, rfl⟩
theorem agr_st {t : TypeId} {n : Nat} {z : List V} {us : List Value} {fs : List (Nat × Nat)} {gs : Array Field} (hi : (P.info? t).map (fun i => (i.size, i.zero)) = some (n, some (.agg us.toArray))) (hz : ZL P z us) (hu : P.underlying t = some (.struct gs))
    (hf : gs.toList.map (fun f => (f.offset, csz P f.type)) = fs) (hp : fs.all (fun f => decide (0 < f.2)) = true) : Agr P t (.st n z fs) := by
  obtain ⟨i, h1, h2⟩ := Option.map_eq_some_iff.1 hi
  simp only [Prod.mk.injEq] at h2
  exact ⟨i, _, gs, h1, h2.1, h2.2, by simpa using hz, hu, hf, fun f hf => by have := List.all_eq_true.1 hp f hf; simpa using this⟩
theorem agr_sl {t e : TypeId} {es eb : Nat} {ez : List V} {zv : Value} (hi : (P.info? t).map (fun i => (i.size, i.zero)) = some (1, some (.slice none 0 0))) (hu : P.underlying t = some (.slice e))
    (hj : (P.info? e).map (fun i => (i.size, i.zero, i.bytes)) = some (es, some zv, eb)) (hz : ZL P ez zv.cells.toList) (hl : ez.length = es) (h0 : 0 < es) (h1 : 0 < eb) (h2 : eb ≤ 128) : Agr P t (.sl e es eb ez) := by
  obtain ⟨i, h3, h4⟩ := Option.map_eq_some_iff.1 hi
  obtain ⟨j, h5, h6⟩ := Option.map_eq_some_iff.1 hj
  simp only [Prod.mk.injEq] at h4 h6
  exact ⟨i, j, zv, h3, h4.1, h4.2, hu, h5, h6.2.1, h6.1, h6.2.2, hz, hl, h0, h1, h2⟩
end

theorem thenQ_n (K : PS → Prop) (Q : Exit → PS → Prop) (σ : PS) : thenQ K Q .normal σ = K σ := rfl
theorem thenQ_e (K : PS → Prop) (Q : Exit → PS → Prop) (σ : PS) (i : Nat) : thenQ K Q (.exit i) σ = Q (.exit i) σ := rfl
theorem thenQ_r (K : PS → Prop) (Q : Exit → PS → Prop) (σ : PS) : thenQ K Q .ret σ = Q .ret σ := rfl
theorem blockQ_n (i : Nat) (Q : Exit → PS → Prop) (σ : PS) : blockQ i Q .normal σ = Q .normal σ := rfl
theorem blockQ_e (i j : Nat) (Q : Exit → PS → Prop) (σ : PS) : blockQ i Q (.exit j) σ = if j = i then Q .normal σ else Q (.exit j) σ := rfl
theorem blockQ_r (i : Nat) (Q : Exit → PS → Prop) (σ : PS) : blockQ i Q .ret σ = Q .ret σ := rfl
theorem upd_at {α : Type} (f : Nat → α) (d : Nat) (x : α) (s : Nat) : upd f d x s = if s = d then x else f s := rfl
theorem initS_0 (c : V) (cs : List V) : initS (c :: cs) 0 = c := rfl
theorem initS_s (c : V) (cs : List V) (n : Nat) : initS (c :: cs) (n + 1) = initS cs n := rfl
theorem initS_n (n : Nat) : initS [] n = .tup [] := rfl
theorem initS_1 (c d : V) (cs : List V) : initS (c :: d :: cs) 1 = d := rfl
theorem initS_2 (c d e : V) (cs : List V) : initS (c :: d :: e :: cs) 2 = e := rfl
theorem initS_3 (c d e f : V) (cs : List V) : initS (c :: d :: e :: f :: cs) 3 = f := rfl
theorem isB_t (c : Bool) : isB true (.bool c) = c := by cases c <;> rfl
theorem isB_f (c : Bool) : isB false (.bool c) = !c := by cases c <;> rfl
theorem isB_u (b : Bool) (cs : List V) : isB b (.tup cs) = false := rfl
def gIf (c : Bool) (p q : Prop) (_ : Tag (p ∧ q)) : Prop := (c = true → p) ∧ (c = false → q)
theorem gIf_t (p q : Prop) (t : Tag (p ∧ q)) : gIf true p q t = p := propext ⟨fun h => h.1 rfl, fun h => ⟨fun _ => h, fun e => by cases e⟩⟩
theorem gIf_f (p q : Prop) (t : Tag (p ∧ q)) : gIf false p q t = q := propext ⟨fun h => h.2 rfl, fun h => ⟨(fun e => by cases e), fun _ => h⟩⟩
theorem pureS_eq (tb : Tb) (o : LO) (σ : PS) (K : PS → Prop) : pureS tb o σ K = (match o.dst with
  | none => False
  | some d => match o.g with
    | none => pc tb σ o.op ∧ K (upd σ d (pv tb σ o.op))
    | some (none, _) => False
    | some (some q, b) => known (σ q) = true ∧ gIf (isB b (σ q)) (pc tb σ o.op ∧ K (upd σ d (pv tb σ o.op))) (K (upd σ d (.tup []))) ⟨0⟩) := rfl
theorem callS_eq (P : Program) (o : LO) (f : FuncId) (args : List Operand) (σ : PS) (K : PS → Prop) : callS P o f args σ K = (match o.g with
  | none => args.all (fun x => (opV σ x).isArg) = true ∧ ∃ r, SoundAt P f (args.map fun x => er (opV σ x)) r ∧ LaterT (K (putD σ o.dst r)) ⟨0⟩
  | some (q, b) => match q, o.dst with
    | some q, some d => known (σ q) = true ∧ gIf (isB b (σ q)) (args.all (fun x => (opV σ x).isArg) = true ∧ ∃ r, SoundAt P f (args.map fun x => er (opV σ x)) r ∧ LaterT (K (upd σ d r)) ⟨0⟩) (K (upd σ d (.tup []))) ⟨0⟩
    | _, _ => False) := rfl
theorem zrow_0 (ez : List V) (es : Nat) : zrow ez es 0 = [] := by simp [zrow]
theorem zrow_s {ez : List V} {es n : Nat} (h : ez.length = es) : zrow ez es (n + 1) = ez ++ zrow ez es n := by
  unfold zrow
  rw [Nat.add_mul, Nat.one_mul, Nat.add_comm, List.range_add, List.map_append, List.map_map]
  congr 1
  · apply List.ext_getElem
    · simp [h]
    · intro i h1 h2
      simp only [List.length_map, List.length_range] at h1
      simp [Nat.mod_eq_of_lt h1, h2]
  · apply List.map_congr_left
    intro i _
    simp
theorem lim_lit {n : Nat} (h : n < 1000) : (n ≤ lim) = True := eq_true (by unfold lim; omega)
theorem ex_box (l : List V) : (∃ cs, some l = some cs) = True := eq_true ⟨l, rfl⟩
theorem nb_int (k : IntKind) (n : Int) : notBox (.int k n) = true := rfl
theorem nb_bool (b : Bool) : notBox (.bool b) = true := rfl
theorem nb_str (s : List UInt8) : notBox (.str s) = true := rfl
theorem nb_own (e : TypeId) (n : Nat) (cs : List V) : notBox (.own e n cs) = true := rfl
theorem nb_dat (n : Nat) (cs : List V) : notBox (.dat n cs) = true := rfl
theorem nb_arg (n : Nat) (cs : List V) : notBox (.arg n cs) = true := rfl
theorem nb_pin (u : Value) (n : Nat) (cs : List V) : notBox (.pin u n cs) = true := rfl
theorem nb_gh (us : List Value) (cs : List V) : notBox (.gh us cs) = true := rfl
theorem nb_agg (cs : List V) : notBox (.agg cs) = true := rfl
theorem nb_tup (cs : List V) : notBox (.tup cs) = true := rfl
theorem nb_undef  : notBox (.undef) = true := rfl
theorem nb_same (s : Nat) : notBox (.same s) = true := rfl
theorem nb_cref (s o : Nat) : notBox (.cref s o) = true := rfl
theorem nb_adr (cs : List V) (o : Nat) : notBox (.adr cs o) = true := rfl
theorem nb_box (cs : List V) : notBox (.box cs) = false := rfl
theorem nb_uni (e : TypeId) (n : Nat) (cs : List V) : notBox (.uni e n cs) = false := rfl
attribute [go_sem] nb_int nb_bool nb_str nb_own nb_dat nb_arg nb_pin nb_gh nb_agg nb_tup nb_undef nb_same nb_cref nb_adr nb_box nb_uni
attribute [go_sem] lim_lit ex_box gIf_t gIf_f zrow_0 zrow_s
attribute [go_sem] evS evD adP adU opT bas bxOf setBx refOf iaS iaSC lenS lenSC mvV mvC pv pc pvCall pcCall pickV pickC faV' faC' iaV' iaC' loadV' loadC' opV cV binV binC unV unC adV getCells loadV loadC faV faC slOf ixOf iaV iaC sixV sixC lenV lenC bdOf partV partC convV convC mxV mxC
  dg dg1 dg2 V.isVal V.isArg V.isCell known isB_t isB_f isB_u takeS putD upd_at er erL cellsV thenQ_n thenQ_e thenQ_r initS_0 initS_1 initS_2 initS_3 initS_s initS_n blockQ_n blockQ_e blockQ_r TyD.size leftCells ownCells repl zeroL fillP appY resF resL resV retQ kill
attribute [go_sem ↓] evO pureS_eq callS_eq callS' grdS asgS asgU loadS extS stoS allocS boxS buildS bslS makeS makeU appS
end Go.Proofs.Ytmioifafgbjjhaa

namespace Go.Proofs.Ytmioifafgbjjhaa
open Go.RowKit
set_option linter.unusedVariables false

def fz : Nat := 1099511627780
def loopF {S O : Type} (body : (S → Option O) → S → Option O) : Nat → S → Option O
  | 0, _ => none
  | n + 1, s => body (loopF body n) s
def chk {α : Type} (p : Prop) [Decidable p] (x : Option α) : Option α := if p then x else none
def geti {α : Type} (l : List α) (i : Int) : Option α := if 0 ≤ i then l[i.toNat]? else none
def subl {α : Type} (l : List α) (lo hi : Int) : List α := (l.take hi.toNat).drop lo.toNat
def seti {α : Type} (l : List α) (i : Int) (x : α) : List α := l.set i.toNat x
def obind {α β : Type} (x : Option α) (f : α → Option β) : Option β := match x with
  | some a => f a
  | none => none
theorem chk_some {α : Type} {p : Prop} [Decidable p] {x : Option α} {r : α} (h : chk p x = some r) : p ∧ x = some r := by
  unfold chk at h
  split at h
  · rename_i hp; exact ⟨hp, h⟩
  · cases h
theorem ob_some {α β : Type} {x : Option α} {f : α → Option β} {r : β} (h : obind x f = some r) : ∃ a, x = some a ∧ f a = some r := by
  cases x with
  | none => cases h
  | some a => exact ⟨a, rfl, h⟩
theorem cond_some {α : Type} {b : Bool} {x y : Option α} {r : α} (h : cond b x y = some r) : (b = true ∧ x = some r) ∨ (b = false ∧ y = some r) := by
  cases b
  · exact .inr ⟨rfl, h⟩
  · exact .inl ⟨rfl, h⟩
theorem geti_some {α : Type} {l : List α} {i : Int} {x : α} (h : geti l i = some x) : 0 ≤ i ∧ i < l.length ∧ l[i.toNat]? = some x := by
  unfold geti at h
  split at h
  · rename_i h0
    have : i.toNat < l.length := by
      rcases Nat.lt_or_ge i.toNat l.length with h1 | h1
      · exact h1
      · rw [List.getElem?_eq_none h1] at h; cases h
    exact ⟨h0, by omega, h⟩
  · cases h
abbrev oL {α : Type} (e : TypeId) (f : α → List V) (x : List α) : V := .own e x.length (x.flatMap f)
abbrev dL {α : Type} (f : α → List V) (x : List α) : V := .dat x.length (x.flatMap f)
abbrev aL {α : Type} (f : α → List V) (x : List α) : V := .arg x.length (x.flatMap f)
abbrev wL {α : Type} (e : TypeId) (f : α → List V) (x : List α) : V := .uni e x.length (x.flatMap f)
abbrev nI (x : Int) : V := .int .i64 x
theorem nb {a b : Nat} (h : Nat.ble a b = true) : a ≤ b := Nat.le_of_ble_eq_true h
theorem flat_len {α : Type} {f : α → List V} {n : Nat} (hf : ∀ x, (f x).length = n) : ∀ l : List α, (l.flatMap f).length = l.length * n
  | [] => by simp
  | x :: l => by rw [List.flatMap_cons, List.length_append, hf, flat_len hf l, List.length_cons, Nat.add_mul]; omega
theorem flat_drop {α : Type} {f : α → List V} {n : Nat} (hf : ∀ x, (f x).length = n) : ∀ (l : List α) (k : Nat), (l.flatMap f).drop (k * n) = (l.drop k).flatMap f
  | [], k => by simp
  | x :: l, 0 => by simp
  | x :: l, k + 1 => by
    rw [List.flatMap_cons, Nat.add_mul, Nat.one_mul, Nat.add_comm, List.drop_append, List.drop_of_length_le (by rw [hf]; omega), hf, Nat.add_sub_cancel_left, flat_drop hf l k]
    simp
theorem flat_take {α : Type} {f : α → List V} {n : Nat} (hf : ∀ x, (f x).length = n) : ∀ (l : List α) (k : Nat), (l.flatMap f).take (k * n) = (l.take k).flatMap f
  | [], k => by simp
  | x :: l, 0 => by simp
  | x :: l, k + 1 => by
    rw [List.flatMap_cons, Nat.add_mul, Nat.one_mul, Nat.add_comm, List.take_append, List.take_of_length_le (by rw [hf]; omega), hf, Nat.add_sub_cancel_left, flat_take hf l k, List.take_succ_cons, List.flatMap_cons]
theorem fl_get {α : Type} {f : α → List V} {n : Nat} (hf : ∀ x, (f x).length = n) {l : List α} {k : Nat} {x : α} (h : l[k]? = some x) (off : Nat) : (l.flatMap f).drop (k * n + off) = (f x).drop off ++ (l.drop (k + 1)).flatMap f ∨ n < off := by
  rcases Nat.lt_or_ge n off with h1 | h1
  · exact .inr h1
  · left
    have hk : k < l.length := by
      rcases Nat.lt_or_ge k l.length with h1 | h1
      · exact h1
      · rw [List.getElem?_eq_none h1] at h; cases h
    have hx : l[k] = x := by rw [List.getElem?_eq_getElem hk] at h; injection h
    rw [← List.drop_drop, flat_drop hf, List.drop_eq_getElem_cons hk, List.flatMap_cons, hx, List.drop_append_of_le_length (by rw [hf]; exact h1)]
theorem get_cells {α : Type} {f : α → List V} {n : Nat} (hf : ∀ x, (f x).length = n) {l : List α} {k : Nat} {x : α} (h : l[k]? = some x) {d : TyD} {off : Nat} (ho : off + d.size ≤ n) : getCells d (l.flatMap f) (k * n + off) = getCells d (f x) off ∧ k * n + off + d.size ≤ (l.flatMap f).length := by
  have hk : k < l.length := by
    rcases Nat.lt_or_ge k l.length with h1 | h1
    · exact h1
    · rw [List.getElem?_eq_none h1] at h; cases h
  have hd := (fl_get hf h off).resolve_right (by omega)
  have hlen : ((f x).drop off).length = n - off := by rw [List.length_drop, hf]
  constructor
  · have key : ∀ m, m ≤ n - off → ((l.flatMap f).drop (k * n + off)).take m = ((f x).drop off).take m := fun m hm => by rw [hd, List.take_append_of_le_length (by omega)]
    have key1 : d.size = 1 → (l.flatMap f)[k * n + off]? = (f x)[off]? := fun h1 => by
      have e1 : (l.flatMap f)[k * n + off]? = ((l.flatMap f).drop (k * n + off))[0]? := by rw [List.getElem?_drop, Nat.add_zero]
      have e2 : (f x)[off]? = ((f x).drop off)[0]? := by rw [List.getElem?_drop, Nat.add_zero]
      rw [e1, e2, hd, List.getElem?_append_left (by omega)]
    cases d with
    | st m z fs => simp only [getCells]; rw [key m (by simp only [TyD.size] at ho; omega)]
    | sc z => simp only [getCells]; rw [key1 rfl]
    | sl e es eb ez => simp only [getCells]; rw [key1 rfl]
  · rw [flat_len hf]
    have : k * n + n ≤ l.length * n := by rw [← Nat.succ_mul]; exact Nat.mul_le_mul_right _ hk
    omega
theorem erL_app : ∀ (a b : List V), erL (a ++ b) = erL a ++ erL b
  | [], b => rfl
  | c :: a, b => by rw [List.cons_append, erL, erL, erL_app a b, List.cons_append]
theorem erL_flat {α : Type} {f g : α → List V} (h : ∀ x, erL (f x) = g x) : ∀ l : List α, erL (l.flatMap f) = l.flatMap g
  | [] => rfl
  | x :: l => by rw [List.flatMap_cons, List.flatMap_cons, erL_app, h, erL_flat h l]
theorem zrow_flat {α : Type} {f : α → List V} {n : Nat} {z : α} {ez : List V} (hz : f z = ez) (hn : ez.length = n) : ∀ k : Nat, zrow ez n k = (List.replicate k z).flatMap f
  | 0 => by simp [zrow]
  | k + 1 => by rw [zrow_s hn, zrow_flat hz hn k, List.replicate_succ, List.flatMap_cons, hz]
theorem repl_flat {α : Type} {f : α → List V} {n : Nat} (hf : ∀ x, (f x).length = n) {l : List α} {k : Nat} (hk : k < l.length) (x : α) : repl (l.flatMap f) (k * n) (f x) = (l.set k x).flatMap f := by
  unfold repl
  rw [hf, show k * n + n = (k + 1) * n by rw [Nat.add_mul, Nat.one_mul], flat_take hf, flat_drop hf, List.set_eq_take_append_cons_drop, if_pos hk, List.flatMap_append, List.flatMap_cons, List.append_assoc]
def ofL : List (Nat × V) → PS
  | [] => fun _ => .undef
  | (s, c) :: L => upd (ofL L) s c
def okK (σ : PS) : List (Nat × V) → Prop
  | [] => True
  | (s, c) :: L => Kp (σ s) c ∧ okK σ L
def okR (L : List (Nat × V)) : Bool := L.all fun p => match refOf p.2 with
  | some b => (L.map (·.1)).contains b
  | none => true
def Fg (σ σ' : PS) : Prop := ∀ (P : Program) (nt : Nat) (bx : List Nat) (base : Nat) (St0 : Nat → Nat → Prop) (w0 : World) (a : Act) (w : World), Rel P nt bx base St0 w0 σ a w → Rel P nt bx base St0 w0 σ' a w
theorem ofL_at {σ : PS} : ∀ {L : List (Nat × V)}, okK σ L → ∀ s, (s ∈ L.map (·.1) → Kp (σ s) (ofL L s)) ∧ (s ∉ L.map (·.1) → ofL L s = .undef)
  | [], _, s => ⟨fun h => by simp at h, fun _ => rfl⟩
  | (q, c) :: L, ⟨h1, h2⟩, s => by
    obtain ⟨i1, i2⟩ := ofL_at h2 s
    by_cases e : s = q
    · subst e
      exact ⟨fun _ => by simp only [ofL, upd_same]; exact h1, fun h => absurd (by simp) h⟩
    · simp only [ofL, upd_ne _ _ e, List.map_cons, List.mem_cons, e, false_or]
      exact ⟨i1, i2⟩
theorem ofL_mem {L : List (Nat × V)} {s : Nat} {b : Nat} (h : refOf (ofL L s) = some b) : ∃ p ∈ L, refOf p.2 = some b := by
  induction L with
  | nil => cases h
  | cons p L ih =>
    obtain ⟨q, c⟩ := p
    by_cases e : s = q
    · subst e; rw [show ofL ((s, c) :: L) s = c from by simp [ofL, upd_same]] at h; exact ⟨(s, c), by simp, h⟩
    · rw [show ofL ((q, c) :: L) s = ofL L s from by simp [ofL, upd_ne _ _ e]] at h
      obtain ⟨p, hp, h⟩ := ih h
      exact ⟨p, by simp [hp], h⟩
theorem ofL_key : ∀ {L : List (Nat × V)} {s : Nat}, ofL L s ≠ .undef → s ∈ L.map (·.1)
  | [], _, h => absurd rfl h
  | (q, c) :: L, s, h => by
    by_cases e : s = q
    · subst e; simp
    · have : ofL L s ≠ .undef := by rwa [show ofL ((q, c) :: L) s = ofL L s from upd_ne _ _ e] at h
      exact List.mem_cons_of_mem _ (ofL_key this)
theorem fg_keep {σ : PS} {L : List (Nat × V)} (h1 : okK σ L) (h2 : okR L = true) : Fg σ (ofL L) := by
  intro P nt bx base St0 w0 a w hr
  have hcl := ofL_at h1
  obtain ⟨St, B, h, hb, hst, hz⟩ := hr
  refine rel_wk (fun s => ?_) (fun s b e he => ?_) ⟨St, B, h, hb, hst, hz⟩
  · by_cases hs : s ∈ L.map (·.1)
    · exact .inr ((hcl s).1 hs)
    · exact .inl ((hcl s).2 hs)
  · obtain ⟨p, hp, hpe⟩ := ofL_mem e
    have hb : b ∈ L.map (·.1) := by
      have := List.all_eq_true.1 h2 p hp
      rw [hpe] at this
      simpa using this
    have hs : s ∈ L.map (·.1) := ofL_key (fun e' => by rw [e'] at e; cases e)
    obtain ⟨cs, hcs⟩ := h.crefs s b (((hcl s).1 hs).rf b e)
    have hk := ((hcl b).1 hb).bx
    rw [he, hcs] at hk
    cases hk
section
variable {P : Program} {nt : Nat} {bx : List Nat} {σ : PS} {Q : Exit → PS → Prop} {tb : Tb} {cns : List Nat}
theorem ls_fg {l : LC} {σ' : PS} (hf : Fg σ σ') (h : LS P nt bx l σ' Q) : LS P nt bx l σ Q :=
  fun c hc hok hL base St0 w0 a w hr => h c hc hok hL base St0 w0 a w (hf _ _ _ _ _ _ _ _ hr)
theorem ls_keep {l : LC} (L : List (Nat × V)) (h1 : okK σ L) (h2 : okR L = true) (h : LS P nt bx l (ofL L) Q) : LS P nt bx l σ Q := ls_fg (fg_keep h1 h2) h
theorem ls_rs {ops : List LO} {y : LC} (htb : TbOk P tb) (h : evS P tb cns ops σ (fun σ' => LS P nt bx y σ' Q)) : LS P nt bx (.seq (.rgn cns ops) y) σ Q := ls_seq (ls_rgn htb h)
theorem ls_rd {fps : List (List Nat × List Nat)} {es : List (List Nat)} {ops : List LO} {y : LC} (htb : TbOk P tb) (hm : P.follows .mixedOrders = true) (hD : (okD fps es ops && okF cns fps ops) = true) (h : evD P tb cns fps ops σ (fun σ' => LS P nt bx y σ' Q)) : LS P nt bx (.seq (.drw cns fps es ops) y) σ Q := ls_seq (ls_drw htb hm hD h)
theorem ls_cT {c : Operand} {x y : LC} {b : Bool} (hb : opV σ c = .bool b) (e : b = true) (h : LS P nt bx x σ Q) : LS P nt bx (.cond c x y) σ Q := ls_cond hb (fun _ => h) (fun e' => by rw [e] at e'; cases e')
theorem ls_cF {c : Operand} {x y : LC} {b : Bool} (hb : opV σ c = .bool b) (e : b = false) (h : LS P nt bx y σ Q) : LS P nt bx (.cond c x y) σ Q := ls_cond hb (fun e' => by rw [e] at e'; cases e') (fun _ => h)
theorem codeS_loopF {c : Code} (I : Nat → PS → Prop) (m0 : Nat) (h0 : I m0 σ) (round : ∀ m σ (N : PS → Prop), I m σ → (∀ σ' m' σ'', m' < m → I m' σ'' → Fg σ' σ'' → N σ') → CodeS P nt bx c σ (thenQ N Q)) : CodeS P nt bx (.loop c) σ Q := by
  intro base St0 w0 a w hr b k cs
  have key : ∀ n σ a w, I n σ → Rel P nt bx base St0 w0 σ a w →
      ∃ e a' w', (∃ σ', Q e σ' ∧ Rel P nt bx base St0 w0 σ' a' w') ∧ Arrives P (lone (b.at a (.code c :: .inLoop c :: k)) cs w) b k cs e a' w' := by
    intro n
    induction n using Nat.strongRecOn with
    | _ n ih =>
      intro σ a w hI hr
      obtain ⟨e, a₁, w₁, ⟨σ₁, hq, hr₁⟩, harr⟩ := round n σ (fun σ' => ∃ m' σ'', m' < n ∧ I m' σ'' ∧ Fg σ' σ'') hI (fun σ' m' σ'' h1 h2 h3 => ⟨m', σ'', h1, h2, h3⟩) base St0 w0 a w hr b (.inLoop c :: k) cs
      cases e with
      | normal =>
        obtain ⟨m', σ'', hlt, hI₁, hfg⟩ := hq
        obtain ⟨e₂, a₂, w₂, hq₂, harr₂⟩ := ih m' hlt σ'' a₁ w₁ hI₁ (hfg _ _ _ _ _ _ _ _ hr₁)
        exact ⟨e₂, a₂, w₂, hq₂, .of_steps (Steps.trans harr (.one step_inLoop)) harr₂⟩
      | exit id => exact ⟨_, a₁, w₁, ⟨σ₁, hq, hr₁⟩, .pass (x := .inLoop c) rfl (fun _ _ => .inl (by simp)) harr⟩
      | goto l => exact ⟨_, a₁, w₁, ⟨σ₁, hq, hr₁⟩, .pass (x := .inLoop c) rfl (fun _ _ => .inl (by simp)) harr⟩
      | ret => exact ⟨_, a₁, w₁, ⟨σ₁, hq, hr₁⟩, .pass (x := .inLoop c) rfl (fun _ _ => .inl (by simp)) harr⟩
      | panic ch => exact ⟨_, a₁, w₁, ⟨σ₁, hq, hr₁⟩, .pass (x := .inLoop c) rfl (fun _ _ => .inl (by simp)) harr⟩
      | outgrown => exact ⟨_, a₁, w₁, ⟨σ₁, hq, hr₁⟩, .pass (x := .inLoop c) rfl (fun _ _ => .inl (by simp)) harr⟩
  obtain ⟨e, a', w', hq, harr⟩ := key m0 σ a w h0 hr
  exact ⟨e, a', w', hq, .of_steps (.one step_loop) harr⟩
theorem ls_loopF {x : LC} {D : List Nat} (I : Nat → PS → Prop) (m0 : Nat) (h0 : I m0 σ) (round : ∀ m σ (N : PS → Prop), I m σ → (∀ σ' m' σ'', m' < m → I m' σ'' → Fg σ' σ'' → N σ') → LS P nt bx x σ (thenQ N Q)) : LS P nt bx (.loop D x) σ Q := by
  intro c hc hok hL
  cases c <;> first | (cases hc; done) | skip
  · simp only [liteC, erC] at hc; split at hc <;> cases hc
  · simp only [liteC, erC, LC.loop.injEq, true_and] at hc
    exact codeS_loopF I m0 h0 (fun m σ N hI hN => round m σ N hI hN _ hc hok hL)
theorem ls_rec {x : LC} {D : List Nat} {id : Nat} {S O : Type} (L : S → List (Nat × V)) (body : (S → Option O) → S → Option O) (m0 : Nat) (s0 : S) (out : O) (h : loopF body m0 s0 = some out) (h1 : okK σ (L s0)) (h2 : ∀ s, okR (L s) = true)
    (round : ∀ m s (N : PS → Prop), body (loopF body m) s = some out → (∀ σ' s', loopF body m s' = some out → okK σ' (L s') → N σ') → LS P nt bx x (ofL (L s)) (thenQ N (blockQ id Q))) : LS P nt bx (.blk id (.loop D x)) σ Q := by
  refine ls_blk (ls_fg (fg_keep h1 (h2 s0)) (ls_loopF (fun m σ => ∃ s, σ = ofL (L s) ∧ loopF body m s = some out) m0 ⟨s0, rfl, h⟩ ?_))
  rintro m σ N ⟨s, rfl, hs⟩ hN
  cases m with
  | zero => cases hs
  | succ m => exact round m s N hs (fun σ' s' h3 h4 => hN σ' m _ (Nat.lt_succ_self m) ⟨s', rfl, h3⟩ (fg_keep h4 (h2 s')))
end
end Go.Proofs.Ytmioifafgbjjhaa

namespace Go.Proofs.Ytmioifafgbjjhaa
open Go.RowKit
set_option linter.unusedVariables false
section
variable {P : Program} {tb : Tb} {cns : List Nat} {σ : PS} {K : PS → Prop} {d s t : Nat} {c c1 c2 c3 : V} {x y z : Operand}
theorem evs {o : LO} {os : List LO} (h : evO P tb cns o σ (fun σ' => evS P tb cns os σ' K)) : evS P tb cns (o :: os) σ K := h
theorem evn (h : K σ) : evS P tb cns [] σ K := h
theorem evd {o : LO} {os : List LO} {R W : List Nat} {fps : List (List Nat × List Nat)} (h1 : (adP o.op).all (fun p => bas R (σ p)) = true) (h2 : (adU cns o).all (fun p => bas R (σ p)) = true) (h : evO P tb cns o σ (fun σ' => evD P tb cns fps os σ' K)) : evD P tb cns ((R, W) :: fps) (o :: os) σ K := ⟨h1, h2, h⟩
theorem evdn {fps : List (List Nat × List Nat)} (h : K σ) : evD P tb cns fps [] σ K := by cases fps <;> exact h
theorem ev_mv (hc : cns.contains d = false) (h : σ s = c) (hv : c.isVal = true) (k : K (upd σ d (dg c))) : evO P tb cns ⟨some d, .move (.tmp s), t, none⟩ σ K := by
  subst h
  simp only [evO, hc, Bool.false_eq_true, if_false, pureS, pc, pv, mvC, mvV]
  cases hs : σ s <;> rw [hs] at hv k <;> first | exact ⟨hv, k⟩ | cases hv
theorem ev_mvu {e : TypeId} {n : Nat} {cs : List V} (hc : cns.contains d = false) (h : σ s = .uni e n cs) (k : K (upd σ d (.same s))) : evO P tb cns ⟨some d, .move (.tmp s), t, none⟩ σ K := by
  simp only [evO, hc, Bool.false_eq_true, if_false, pureS, pc, pv, mvC, mvV, h]; exact ⟨trivial, k⟩
theorem ev_mvs {b : Nat} (hc : cns.contains d = false) (h : σ s = .same b) (k : K (upd σ d (.same b))) : evO P tb cns ⟨some d, .move (.tmp s), t, none⟩ σ K := by
  simp only [evO, hc, Bool.false_eq_true, if_false, pureS, pc, pv, mvC, mvV, h]; exact ⟨trivial, k⟩
theorem asg_val (h : σ s = c) (hv : c.isVal = true) {o : LO} (k : K (upd (upd σ s (dg c)) d c)) : asgS tb o (.tmp s) d σ K := by
  subst h
  unfold asgS
  simp only
  cases hs : σ s <;> rw [hs] at hv k <;> first | (refine ⟨hv, ?_⟩; simp only [takeS, hs]; exact k) | cases hv
theorem ev_mvt (hc : cns.contains d = true) (h : σ s = c) (hv : c.isVal = true) (k : K (upd (upd σ s (dg c)) d c)) : evO P tb cns ⟨some d, .move (.tmp s), t, none⟩ σ K := by
  simp only [evO, hc, if_true]; exact ⟨trivial, asg_val h hv k⟩
theorem ev_mvtu {e : TypeId} {n : Nat} {cs : List V} (hc : cns.contains d = true) (h : σ s = .uni e n cs) (k : K (upd (upd (kill [s] σ) s (.dat n cs)) d (.own e n cs))) : evO P tb cns ⟨some d, .move (.tmp s), t, none⟩ σ K := by
  simp only [evO, hc, if_true, asgS, h]; exact ⟨trivial, k⟩
theorem ev_as (hc : cns.contains d = false) (h : σ s = c) (hv : c.isVal = true) (k : K (upd (upd σ s (dg c)) d c)) : evO P tb cns ⟨some d, .assign (.tmp s), t, none⟩ σ K := by
  simp only [evO, hc, Bool.false_eq_true, if_false]; exact ⟨trivial, asg_val h hv k⟩
theorem ev_asu {e : TypeId} {n : Nat} {cs : List V} (hc : cns.contains d = true) (h : σ s = .uni e n cs) (hn : notBox (kill [s] σ d) = true) (k : K (upd (kill [s] σ) d (.uni e n cs))) : evO P tb cns ⟨some d, .assign (.tmp s), t, none⟩ σ K := by
  simp only [evO, hc, if_true, asgU, h]; exact ⟨trivial, hn, k⟩
theorem ev_ac {v : Value} (hc : cns.contains d = false) (hn : v ≠ .slice none 0 0) (hv : (cV v).isVal = true) (k : K (upd σ d (cV v))) : evO P tb cns ⟨some d, .assign (.const v), t, none⟩ σ K := by
  simp only [evO, hc, Bool.false_eq_true, if_false]
  refine ⟨trivial, ?_⟩
  unfold asgS
  split
  · rename_i h; injection h with h; exact absurd h hn
  · rename_i h; cases h
  · exact ⟨hv, k⟩
theorem ev_an {e : TypeId} {a b : Nat} {ez : List V} (hc : cns.contains d = false) (ht : tb t = some (.sl e a b ez)) (k : K (upd σ d (.own e 0 []))) : evO P tb cns ⟨some d, .assign (.const (.slice none 0 0)), t, none⟩ σ K := by
  simp only [evO, hc, Bool.false_eq_true, if_false, asgS, ht]; exact ⟨trivial, k⟩
theorem ev_mc {v : Value} (hc : cns.contains d = false) (hv : (cV v).isVal = true) (k : K (upd σ d (dg (cV v)))) : evO P tb cns ⟨some d, .move (.const v), t, none⟩ σ K := by
  simp only [evO, hc, Bool.false_eq_true, if_false]; exact ⟨hv, k⟩
theorem ev_bin {op : BinOp} {ta tc : TypeId} (hx : opV σ x = c1) (hy : opV σ y = c2) (hc : binC (tb ta) op c1 c2) (k : K (upd σ d (binV op c1 c2))) : evO P tb cns ⟨some d, .binOp op ta x y tc, t, none⟩ σ K := by
  subst hx hy; exact ⟨hc, k⟩
theorem ev_un {op : UnOp} {ta : TypeId} (hx : opV σ x = c1) (hc : unC op c1) (k : K (upd σ d (unV op c1))) : evO P tb cns ⟨some d, .unOp op ta x, t, none⟩ σ K := by
  subst hx; exact ⟨hc, k⟩
theorem ev_cvi {a b : TypeId} {dd : TyD} {k0 k1 : IntKind} {n z : Int} (hx : opV σ x = .int k0 n) (h1 : tb a = some dd) (h2 : tb b = some (.sc (.int k1 z))) (k : K (upd σ d (.int k1 (k1.wrap n)))) : evO P tb cns ⟨some d, .convert a b x, t, none⟩ σ K := by
  refine ⟨?_, ?_⟩
  · simp only [pc, convC, hx, h1, h2]
  · simp only [pv, convV, hx, h2]; exact k
def cu8 (n : Int) : List V := [.int .u8 n]
def bytesOf (l : List Int) : List UInt8 := l.map fun n => UInt8.ofNat n.toNat
theorem ev_cvs {a b e : TypeId} {es eb : Nat} {ez : List V} {z : List UInt8} {z' : Int} {l : List Int} (hx : slOf (opV σ x) = some (l.length, l.flatMap cu8)) (h1 : tb a = some (.sl e es eb ez)) (h2 : tb b = some (.sc (.str z))) (h3 : tb e = some (.sc (.int .u8 z'))) (k : K (upd σ d (.str (bytesOf l)))) : evO P tb cns ⟨some d, .convert a b x, t, none⟩ σ K := by
  have e1 : (l.flatMap cu8).length = l.length := by rw [flat_len (n := 1) (fun _ => rfl)]; omega
  have e2 : (l.flatMap cu8).all isU8 = true := by rw [List.all_eq_true]; intro v hv; obtain ⟨n, _, hn⟩ := List.mem_flatMap.1 hv; simp only [cu8, List.mem_singleton] at hn; subst hn; rfl
  have e3 : (l.flatMap cu8).map byteV = bytesOf l := by
    clear hx e1 e2 k
    unfold bytesOf
    induction l with
    | nil => rfl
    | cons n l ih => rw [List.flatMap_cons, List.map_append, ih]; rfl
  refine ⟨?_, ?_⟩
  · simp only [pc, convC, h1, h2, h3, hx]
    cases hc : opV σ x <;> rw [hc] at hx <;> first | exact ⟨e1, e2⟩ | cases hx
  · simp only [pv, h2]
    rw [convV_sl hx, e3]; exact k
theorem ev_len {ta : TypeId} {e : TypeId} {es eb : Nat} {ez : List V} {n : Nat} {cs : List V} (hx : opV σ x = c1) (hs : slOf c1 = some (n, cs)) (ht : tb ta = some (.sl e es eb ez)) (k : K (upd σ d (.int .i64 n))) : evO P tb cns ⟨some d, .call { callee := .builtin .len, args := #[x], argTypes := #[ta] }, t, none⟩ σ K := by
  subst hx
  refine ⟨?_, ?_⟩
  · simp only [pc, pcCall, ht]
    cases hc : opV σ x <;> rw [hc] at hs <;> first | (simp only [lenSC, lenC, slOf]; done) | cases hs
  · simp only [pv, pvCall]
    cases hc : opV σ x <;> rw [hc] at hs <;> first | (simp only [slOf, Option.some.injEq, Prod.mk.injEq] at hs; simp only [lenS, lenV, slOf, hs.1]; exact k) | cases hs
theorem ev_lens {ta : TypeId} {z u : List UInt8} (hx : opV σ x = .str u) (ht : tb ta = some (.sc (.str []))) (k : K (upd σ d (.int .i64 u.length))) : evO P tb cns ⟨some d, .call { callee := .builtin .len, args := #[x], argTypes := #[ta] }, t, none⟩ σ K := by
  refine ⟨?_, ?_⟩
  · simp only [pc, pcCall, ht, hx, lenSC, lenC]
  · simp only [pv, pvCall, hx, lenS, lenV]; exact k
theorem ev_lenu {ta : TypeId} {b : Nat} {e e' : TypeId} {es eb n : Nat} {ez cs : List V} (hx : opV σ x = .same b) (hb : σ b = .uni e' n cs) (ht : tb ta = some (.sl e es eb ez)) (k : K (upd σ d (.int .i64 n))) : evO P tb cns ⟨some d, .call { callee := .builtin .len, args := #[x], argTypes := #[ta] }, t, none⟩ σ K := by
  refine ⟨?_, ?_⟩
  · simp only [pc, pcCall, ht, hx, lenSC, hb]
  · simp only [pv, pvCall, hx, lenS, hb]; exact k
theorem ev_max {ts : Array TypeId} {k0 k1 : IntKind} {a b : Int} (hx : opV σ x = .int k0 a) (hy : opV σ y = .int k1 b) (k : K (upd σ d (.int k0 (if a < b then b else a)))) : evO P tb cns ⟨some d, .call { callee := .builtin .max, args := #[x, y], argTypes := ts }, t, none⟩ σ K := by
  refine ⟨?_, ?_⟩
  · simp only [pc, pcCall, hx, hy, mxC]
  · simp only [pv, pvCall, hx, hy, mxV, if_true]; exact k
theorem ev_min {ts : Array TypeId} {k0 k1 : IntKind} {a b : Int} (hx : opV σ x = .int k0 a) (hy : opV σ y = .int k1 b) (k : K (upd σ d (.int k0 (if b < a then b else a)))) : evO P tb cns ⟨some d, .call { callee := .builtin .min, args := #[x, y], argTypes := ts }, t, none⟩ σ K := by
  refine ⟨?_, ?_⟩
  · simp only [pc, pcCall, hx, hy, mxC]
  · simp only [pv, pvCall, hx, hy, mxV, Bool.false_eq_true, if_false]; exact k
theorem ev_ldB {b off : Nat} {cs : List V} {dd : TyD} {v : V} (hc : cns.contains d = false) (hx : adV σ x = .cref b off) (hb : bxOf (σ b) = some cs) (ht : tb s = some dd) (ho : off + dd.size ≤ cs.length) (hg : getCells dd cs off = v) (k : K (upd σ d v)) :
    evO P tb cns ⟨some d, .load s x, t, none⟩ σ K := by
  simp only [evO, hc, Bool.false_eq_true, if_false, pureS, pc, pv, loadC', loadV', ht, hx, loadC, loadV, hb, hg]
  exact ⟨ho, k⟩
theorem ev_ldBt {b off : Nat} {cs : List V} {dd : TyD} {v : V} {c' : V} (hc : cns.contains d = true) (hx : adV σ x = .cref b off) (hb : σ b = .box cs) (ht : tb s = some dd) (ho : off + dd.size ≤ cs.length) (hg : ownCells dd cs off = v) (hl : .box (leftCells dd.size cs off) = c') (k : K (upd (upd σ b c') d v)) :
    evO P tb cns ⟨some d, .load s x, t, none⟩ σ K := by
  simp only [evO, hc, if_true, loadS, ht, hx, hb, bxOf, hg, setBx, hl]
  exact ⟨trivial, ho, k⟩
theorem ev_ldU {α : Type} {f : α → List V} {n off b : Nat} {l : List α} {i : Int} {e : α} {et : TypeId} {m : Nat} {dd : TyD} {v : V} (hc : cns.contains d = false) (hx : adV σ x = .cref b (i.toNat * n + off)) (hb : σ b = .uni et m (l.flatMap f)) (hf : ∀ x, (f x).length = n) (hi : geti l i = some e) (ht : tb s = some dd) (ho : off + dd.size ≤ n) (hg : getCells dd (f e) off = v) (k : K (upd σ d v)) :
    evO P tb cns ⟨some d, .load s x, t, none⟩ σ K := by
  have h1 := get_cells hf (geti_some hi).2.2 ho
  exact ev_ldB hc hx (by rw [hb]; rfl) ht h1.2 (h1.1.trans hg) k
theorem ev_fa {n off sz f : Nat} {z : List V} {fs : List (Nat × Nat)} {v : V} (hx : adV σ x = c1) (ht : tb s = some (.st n z fs)) (hf : fs[f]? = some (off, sz)) (hc : faC σ c1) (hv : faV off c1 = v) (k : K (upd σ d v)) : evO P tb cns ⟨some d, .fieldAddr s x f, t, none⟩ σ K := by
  subst hx hv
  refine ⟨?_, ?_⟩
  · simp only [pc, faC', ht, hf]; exact hc
  · simp only [pv, faV', ht, hf]; exact k
theorem ev_ia {e : TypeId} {es eb n : Nat} {ez cs : List V} {kk : IntKind} {i : Int} (hx : slOf (opV σ x) = some (n, cs)) (hy : opV σ y = .int kk i) (ht : tb s = some (.sl e es eb ez)) (hi : 0 ≤ i ∧ i < n) (k : K (upd σ d (.adr (cs.drop (i.toNat * es)) 0))) : evO P tb cns ⟨some d, .indexAddr s x y, t, none⟩ σ K := by
  have hns : ∀ b, opV σ x ≠ .same b := fun b h => by rw [h] at hx; cases hx
  have e1 : iaSC σ (opV σ x) (opV σ y) = iaC (opV σ x) (opV σ y) := by cases h : opV σ x <;> first | rfl | exact absurd h (hns _)
  have e2 : iaS σ es (opV σ x) (opV σ y) = iaV es (opV σ x) (opV σ y) := by cases h : opV σ x <;> first | rfl | exact absurd h (hns _)
  refine ⟨?_, ?_⟩
  · simp only [pc, iaC', ht]; rw [e1]; simp only [iaC, hx, hy, ixOf]; exact hi
  · simp only [pv, iaV', ht]; rw [e2]; simp only [iaV, hx, hy, ixOf]; exact k
theorem ev_iau {e e' : TypeId} {es eb n b : Nat} {ez cs : List V} {kk : IntKind} {i : Int} (hx : opV σ x = .same b) (hb : σ b = .uni e' n cs) (hy : opV σ y = .int kk i) (ht : tb s = some (.sl e es eb ez)) (hi : 0 ≤ i ∧ i < n) (k : K (upd σ d (.cref b (i.toNat * es)))) : evO P tb cns ⟨some d, .indexAddr s x y, t, none⟩ σ K := by
  refine ⟨?_, ?_⟩
  · simp only [pc, iaC', ht, iaSC, hx, hb, hy, ixOf]; exact hi
  · simp only [pv, iaV', ht, iaS, hx, hb, hy, ixOf]; exact k
theorem ev_six {u : List UInt8} {kk : IntKind} {i : Int} {b : UInt8} (hx : opV σ x = .str u) (hy : opV σ y = .int kk i) (ht : tb s = some (.sc (.str []))) (hi : geti u i = some b) (k : K (upd σ d (.int .u8 b.toNat))) : evO P tb cns ⟨some d, .index s x y, t, none⟩ σ K := by
  obtain ⟨h1, h2, h3⟩ := geti_some hi
  refine ⟨?_, ?_⟩
  · simp only [pc, ht, sixC, hx, hy, ixOf]; exact ⟨trivial, h1, h2⟩
  · simp only [pv, sixV, hx, hy, ixOf, h3]; exact k
theorem ev_sls {u : List UInt8} {lo hi : Option Operand} {l h : Int} (hx : opV σ x = .str u) (ht : tb s = some (.sc (.str []))) (h1 : bdOf 0 (lo.map (opV σ)) = some l) (h2 : bdOf u.length (hi.map (opV σ)) = some h) (hb : 0 ≤ l ∧ l ≤ h ∧ h ≤ u.length) (k : K (upd σ d (.str (subl u l h)))) : evO P tb cns ⟨some d, .slice s x lo hi none, t, none⟩ σ K := by
  refine ⟨?_, ?_⟩
  · simp only [pc, partC, ht, hx, h1, h2]; exact hb
  · simp only [pv, partV, ht, hx, h1, h2]; exact k
theorem sub_len {α : Type} {l : List α} {a b : Int} (h : 0 ≤ a ∧ a ≤ b ∧ b ≤ l.length) : (subl l a b).length = b.toNat - a.toNat := by
  unfold subl; rw [List.length_drop, List.length_take, Nat.min_eq_left (by omega)]
theorem ev_sle {α : Type} {f : α → List V} {e : TypeId} {es eb : Nat} {ez : List V} {lst : List α} {lo hi : Option Operand} {l h : Int} (hx : slOf (opV σ x) = some (lst.length, lst.flatMap f)) (ht : tb s = some (.sl e es eb ez)) (hf : ∀ x, (f x).length = es) (h1 : bdOf 0 (lo.map (opV σ)) = some l) (h2 : bdOf lst.length (hi.map (opV σ)) = some h) (hb : 0 ≤ l ∧ l ≤ h ∧ h ≤ lst.length)
    (k : K (upd σ d (.dat (subl lst l h).length ((subl lst l h).flatMap f)))) : evO P tb cns ⟨some d, .slice s x lo hi none, t, none⟩ σ K := by
  have e1 : partV (some (.sl e es eb ez)) (opV σ x) (lo.map (opV σ)) (hi.map (opV σ)) = .dat (subl lst l h).length ((subl lst l h).flatMap f) := by
    rw [sub_len hb]
    unfold subl
    rw [← flat_drop hf, ← flat_take hf]
    cases hc : opV σ x <;> rw [hc] at hx <;> first | (simp only [partV, hx, h1, h2]; done) | cases hx
  refine ⟨?_, ?_⟩
  · simp only [pc, ht]
    cases hc : opV σ x <;> rw [hc] at hx <;> first | (simp only [partC, hx, h1, h2]; exact ⟨hb.1, hb.2.1, hb.2.2, flat_len hf lst⟩) | cases hx
  · simp only [pv, ht, e1]; exact k
def erA (σ : PS) : List Operand → List V → Prop
  | [], as => as = []
  | x :: xs, as => ∃ a as', as = a :: as' ∧ (opV σ x).isArg = true ∧ er (opV σ x) = a ∧ erA σ xs as'
theorem era {as : List V} {a : V} {xs : List Operand} (h1 : (opV σ x).isArg = true) (h2 : er (opV σ x) = a) (h3 : erA σ xs as) : erA σ (x :: xs) (a :: as) := ⟨a, as, rfl, h1, h2, h3⟩
theorem eran : erA σ [] [] := rfl
theorem erA_ok : ∀ {xs : List Operand} {as : List V}, erA σ xs as → xs.all (fun x => (opV σ x).isArg) = true ∧ (xs.map fun x => er (opV σ x)) = as
  | [], _, h => ⟨rfl, (show _ = [] from h).symm⟩
  | x :: xs, _, ⟨a, as', e, h1, h2, h3⟩ => by
    obtain ⟨h4, h5⟩ := erA_ok h3
    rw [e, List.all_cons, h1, h4, List.map_cons, h2, h5]
    exact ⟨rfl, rfl⟩
theorem ev_call {f : FuncId} {args : Array Operand} {ts : Array TypeId} {dst : Option Nat} {as : List V} {r : V} (he : erA σ args.toList as) (hs : SoundAt P f as r) (k : K (putD σ dst r)) : evO P tb cns ⟨dst, .call { callee := .value (.func f), args := args, argTypes := ts }, t, none⟩ σ K := by
  obtain ⟨h1, h2⟩ := erA_ok he
  subst h2
  exact ⟨h1, r, hs, k⟩
theorem erD {α : Type} {f g : α → List V} (h : ∀ x, erL (f x) = g x) (l : List α) : er (.dat l.length (l.flatMap f)) = .dat l.length (l.flatMap g) := by rw [er, erL_flat h]
theorem erO {α : Type} {f g : α → List V} (h : ∀ x, erL (f x) = g x) (l : List α) {e : TypeId} : er (.own e l.length (l.flatMap f)) = .dat l.length (l.flatMap g) := by rw [er, erL_flat h]
theorem erG {α : Type} {f g : α → List V} (h : ∀ x, erL (f x) = g x) (l : List α) : er (.arg l.length (l.flatMap f)) = .dat l.length (l.flatMap g) := by rw [er, erL_flat h]
theorem erg {cs ds : List V} (h : erL cs = ds) : er (.agg cs) = .agg ds := by rw [er, h]
theorem erc {c a : V} {cs ds : List V} (h1 : er c = a) (h2 : erL cs = ds) : erL (c :: cs) = a :: ds := by rw [erL, h1, h2]
def ci64 (n : Int) : List V := [.int .i64 n]
def cu64 (n : Int) : List V := [.int .u64 n]
def cbl (b : Bool) : List V := [.bool b]
def cst (u : List UInt8) : List V := [.str u]
theorem zci64 (n : Int) : (ci64 n).length = 1 := rfl
theorem zcu64 (n : Int) : (cu64 n).length = 1 := rfl
theorem zcu8 (n : Int) : (cu8 n).length = 1 := rfl
theorem zcbl (n : Bool) : (cbl n).length = 1 := rfl
theorem zcst (n : List UInt8) : (cst n).length = 1 := rfl
theorem eci64 (n : Int) : erL (ci64 n) = ci64 n := rfl
theorem ecu64 (n : Int) : erL (cu64 n) = cu64 n := rfl
theorem ecu8 (n : Int) : erL (cu8 n) = cu8 n := rfl
theorem ecbl (n : Bool) : erL (cbl n) = cbl n := rfl
theorem ecst (n : List UInt8) : erL (cst n) = cst n := rfl
theorem map_dg {α : Type} {f g : α → List V} (h : ∀ x, (f x).map dg1 = g x) : ∀ l : List α, (l.flatMap f).map dg1 = l.flatMap g
  | [] => rfl
  | x :: l => by rw [List.flatMap_cons, List.map_append, h, List.flatMap_cons, map_dg h l]
theorem ev_ext {i : Nat} {cs cs' : List V} {v : V} (hs : σ s = .tup cs) (hi : cs[i]? = some v) (ha : cs.all V.isArg = true) (hl : cs.set i (dg2 v) = cs') (k : K (upd (upd σ s (.tup cs')) d v)) : evO P tb cns ⟨some d, .extract (.tmp s) i, t, none⟩ σ K := by
  simp only [evO, extS, hs, hi, hl]; exact ⟨trivial, ha, k⟩
theorem ev_app {α : Type} {f : α → List V} {e : TypeId} {es eb p q : Nat} {ez ds : List V} {l m : List α} (hx : σ p = .own e l.length (l.flatMap f)) (hy : opV (upd σ p (.dat l.length (l.flatMap f))) (.tmp q) = c2) (hs : slOf c2 = some (m.length, ds)) (hd : ds.length = m.length * es) (ht : tb s = some (.sl e es eb ez)) (ha : appY c2 = m.flatMap f) (hl : l.length + m.length ≤ lim) (hv : c2.isVal = true)
    (k : K (upd (upd (upd σ p (.dat l.length (l.flatMap f))) q (dg c2)) d (.own e (l ++ m).length ((l ++ m).flatMap f)))) : evO P tb cns ⟨some d, .call { callee := .builtin .append, args := #[.tmp p, .tmp q], argTypes := #[s, s] }, t, none⟩ σ K := by
  subst hy
  have e1 : takeS σ (.tmp p) = upd σ p (.dat l.length (l.flatMap f)) := by simp only [takeS, hx, dg, dg2, dg1]
  show appS tb _ _ _ _ d σ K
  unfold appS
  have e2 : opV σ (.tmp p) = .own e l.length (l.flatMap f) := hx
  rw [ht, e2, e1, hs]
  refine ⟨rfl, rfl, hd, hl, ?_⟩
  rw [ha, ← List.flatMap_append, ← List.length_append]
  exact .inl k
theorem ev_appd {α : Type} {f g h : α → List V} {e : TypeId} {es eb p q : Nat} {ez ds : List V} {l m : List α} (hx : σ p = .own e l.length (l.flatMap f)) (hy : opV (upd σ p (.dat l.length (l.flatMap f))) (.tmp q) = c2) (hs : slOf c2 = some (m.length, ds)) (hd : ds.length = m.length * es) (ht : tb s = some (.sl e es eb ez)) (ha : appY c2 = m.flatMap h) (hl : l.length + m.length ≤ lim) (hv : c2.isVal = true)
    (hf : ∀ x, (f x).map dg1 = g x) (hh : ∀ x, (h x).map dg1 = g x) (hfc : ∀ x, (f x).all V.isCell = true) (hhc : ∀ x, (h x).all V.isCell = true)
    (k : K (upd (upd (upd σ p (.dat l.length (l.flatMap f))) q (dg c2)) d (.own e (l ++ m).length ((l ++ m).flatMap g)))) : evO P tb cns ⟨some d, .call { callee := .builtin .append, args := #[.tmp p, .tmp q], argTypes := #[s, s] }, t, none⟩ σ K := by
  subst hy
  have e1 : takeS σ (.tmp p) = upd σ p (.dat l.length (l.flatMap f)) := by simp only [takeS, hx, dg, dg2, dg1]
  show appS tb _ _ _ _ d σ K
  unfold appS
  have e2 : opV σ (.tmp p) = .own e l.length (l.flatMap f) := hx
  rw [ht, e2, e1, hs]
  refine ⟨rfl, rfl, hd, hl, .inr ⟨?_, ?_⟩⟩
  · rw [ha, List.map_append, map_dg hf, map_dg hh, ← List.flatMap_append, ← List.length_append]
    have : ∀ (τ : PS) (c c' : V), upd (upd τ d c) d c' = upd τ d c' := by
      intro τ c c'
      funext q
      by_cases e : q = d
      · rw [e, upd_same, upd_same]
      · rw [upd_ne _ _ e, upd_ne _ _ e, upd_ne _ _ e]
    rw [this]
    exact k
  · rw [ha, List.all_append, List.all_flatMap, List.all_flatMap, Bool.and_eq_true, List.all_eq_true, List.all_eq_true]
    exact ⟨fun x _ => hfc x, fun x _ => hhc x⟩
theorem ev_st {ty : TypeId} {b off : Nat} {cs cs' : List V} {dd : TyD} (hx : adV σ x = .cref b off) (hb : σ b = .box cs) (hy : σ s = c1) (ht : tb t = some dd) (ha : c1.isArg = true) (hn : (cellsV c1).length = dd.size) (ho : off + dd.size ≤ cs.length) (hr : repl cs off (cellsV c1) = cs') (k : K (upd (upd σ s (dg c1)) b (.box cs'))) :
    evO P tb cns ⟨none, .store t x (.tmp s), ty, none⟩ σ K := by
  subst hy
  simp only [evO, stoS, ht, hx, hb, bxOf, setBx]
  refine ⟨trivial, ha, hn, ho, ?_⟩
  rw [show opV σ (.tmp s) = σ s from rfl, hr]
  exact k
theorem ev_stc {ty : TypeId} {b off : Nat} {cs cs' : List V} {dd : TyD} {v : Value} (hx : adV σ x = .cref b off) (hb : σ b = .box cs) (ht : tb t = some dd) (ha : (cV v).isArg = true) (hn : (cellsV (cV v)).length = dd.size) (ho : off + dd.size ≤ cs.length) (hr : repl cs off (cellsV (cV v)) = cs') (k : K (upd σ b (.box cs'))) :
    evO P tb cns ⟨none, .store t x (.const v), ty, none⟩ σ K := by
  simp only [evO, stoS, ht, hx, hb, bxOf, setBx]
  refine ⟨trivial, ha, hn, ho, ?_⟩
  rw [show opV σ (.const v) = cV v from rfl, hr]
  exact k
theorem ev_stu {ty : TypeId} {α : Type} {f : α → List V} {n b : Nat} {l : List α} {i : Int} {e : α} {et : TypeId} {dd : TyD} (hx : adV σ x = .cref b (i.toNat * n)) (hb : σ b = .uni et l.length (l.flatMap f)) (hf : ∀ x, (f x).length = n) (hi : 0 ≤ i ∧ i < l.length) (hy : opV σ y = c1) (ht : tb t = some dd) (ha : c1.isArg = true) (hn : n = dd.size) (hc : cellsV c1 = f e)
    (k : K (upd (takeS σ y) b (.uni et (seti l i e).length ((seti l i e).flatMap f)))) : evO P tb cns ⟨none, .store t x y, ty, none⟩ σ K := by
  subst hy hn
  have hk : i.toNat < l.length := by omega
  simp only [evO, stoS, ht, hx, hb, bxOf, setBx]
  refine ⟨trivial, ha, by rw [hc, hf], ?_, ?_⟩
  · rw [flat_len hf]
    have : i.toNat * dd.size + dd.size ≤ l.length * dd.size := by rw [← Nat.succ_mul]; exact Nat.mul_le_mul_right _ hk
    omega
  · rw [hc, repl_flat hf hk]
    have e1 : (seti l i e).length = l.length := by unfold seti; rw [List.length_set]
    rw [e1] at k
    exact k
theorem ev_al {dd : TyD} (hn : notBox (σ d) = true) (ht : tb s = some dd) (k : K (upd σ d (.box (zeroL dd)))) : evO P tb cns ⟨some d, .alloc s, t, none⟩ σ K := by
  simp only [evO, allocS, ht]; exact ⟨trivial, hn, k⟩
theorem ev_bx {ty : TypeId} (hx : σ s = c1) (ha : c1.isArg = true) (hn : notBox (upd σ s (dg c1) d) = true) (k : K (upd (upd σ s (dg c1)) d (.box (cellsV c1)))) : evO P tb cns ⟨some d, .box ty (.tmp s), t, none⟩ σ K := by
  subst hx
  exact ⟨rfl, ha, hn, k⟩
def okV (σ : PS) : List (Nat × Operand) → List V → Prop
  | [], vs => vs = []
  | (_, x) :: ps, vs => ∃ v vs', vs = v :: vs' ∧ opV σ x = v ∧ okV (takeS σ x) ps vs'
def tkP (σ : PS) : List (Nat × Operand) → List V → PS
  | [], _ => σ
  | (_, .tmp s) :: ps, v :: vs => tkP (upd σ s (dg v)) ps vs
  | _ :: ps, _ :: vs => tkP σ ps vs
  | _, [] => σ
def okVs (σ : PS) : List (Nat × Operand) → List V → Prop
  | [], [] => True
  | (_, x) :: ps, v :: vs => opV σ x = v ∧ okVs (tkP σ [(0, x)] [v]) ps vs
  | _, _ => False
def fillC (place : Nat → Option (Nat × Nat)) : List (Nat × Operand) → List V → List V → Option (List V)
  | [], _, cs => some cs
  | (i, _) :: r, v :: vs, cs => match place i with
    | some (off, sz) => if v.isArg = true ∧ (cellsV v).length = sz ∧ off + sz ≤ cs.length then fillC place r vs (repl cs off (cellsV v)) else none
    | none => none
  | _, [], _ => none
theorem tk_take {x : Operand} {v : V} (h : opV σ x = v) : tkP σ [(0, x)] [v] = takeS σ x := by
  cases x with
  | tmp s => simp only [tkP, takeS]; rw [← h]; rfl
  | _ => rfl
theorem tkP_cons {i : Nat} {x : Operand} {ps : List (Nat × Operand)} {v : V} {vs : List V} {σ : PS} : tkP σ ((i, x) :: ps) (v :: vs) = tkP (tkP σ [(0, x)] [v]) ps vs := by
  cases x <;> cases ps <;> cases vs <;> rfl
theorem fill_vals {place : Nat → Option (Nat × Nat)} : ∀ {ps : List (Nat × Operand)} {vs : List V} {σ : PS} {z cs : List V}, okVs σ ps vs → fillC place ps vs z = some cs → fillP place ps σ z = some (tkP σ ps vs, cs)
  | [], [], σ, z, cs, _, h => by simp only [fillC, Option.some.injEq] at h; subst h; rfl
  | [], _ :: _, _, _, _, h, _ => h.elim
  | (i, x) :: ps, [], _, _, _, h, _ => h.elim
  | (i, x) :: ps, v :: vs, σ, z, cs, ⟨h1, h2⟩, h => by
    rw [tk_take h1] at h2
    simp only [fillC] at h
    simp only [fillP, h1]
    cases hp : place i with
    | none => rw [hp] at h; cases h
    | some q =>
      obtain ⟨off, sz⟩ := q
      rw [hp] at h
      simp only at h ⊢
      split at h
      · rename_i hc
        rw [if_pos hc, tkP_cons, tk_take h1]
        exact fill_vals h2 h
      · cases h
theorem ev_bd {n : Nat} {z : List V} {fs : List (Nat × Nat)} {ps : Array (Nat × Operand)} (vs : List V) {cs : List V} (ht : tb s = some (.st n z fs)) (hv : okVs σ ps.toList vs) (hf : fillC (fun i => fs[i]?) ps.toList vs z = some cs) (k : K (upd (tkP σ ps.toList vs) d (.agg cs))) : evO P tb cns ⟨some d, .build s ps, t, none⟩ σ K := by
  simp only [evO, grdS, buildS, ht, fill_vals hv hf]; exact k
theorem ev_bs {e : TypeId} {es eb n : Nat} {ez : List V} {ps : Array (Nat × Operand)} (vs : List V) {cs : List V} (ht : tb s = some (.sl e es eb ez)) (hv : okVs σ ps.toList vs) (hf : fillC (fun i => some (i * es, es)) ps.toList vs (zrow ez es n) = some cs) (h1 : n * es ≤ 16777216) (h2 : cs.length = n * es) (k : K (upd (tkP σ ps.toList vs) d (.own e n cs))) : evO P tb cns ⟨some d, .buildSlice s n ps, t, none⟩ σ K := by
  simp only [evO, grdS, bslS, ht, fill_vals hv hf]; exact ⟨h1, h2, k⟩
theorem ev_mk {α : Type} {f : α → List V} {z : α} {e : TypeId} {es eb : Nat} {ez : List V} {k0 k1 : IntKind} {n : Int} (hc : cns.contains d = false) (hx : opV σ x = .int k0 n) (hy : opV σ y = .int k1 n) (ht : tb s = some (.sl e es eb ez)) (hz : f z = ez) (hez : ez.length = es) (hn : 0 ≤ n ∧ n.toNat ≤ lim) (k : K (upd σ d (.own e (List.replicate n.toNat z).length ((List.replicate n.toNat z).flatMap f)))) : evO P tb cns ⟨some d, .makeSlice s x y, t, none⟩ σ K := by
  simp only [evO, hc, Bool.false_eq_true, if_false, makeS, ht, hx, hy]
  refine ⟨trivial, hn.1, trivial, hn.2, ?_⟩
  rw [zrow_flat hz hez]
  rw [List.length_replicate] at k
  exact k
theorem ev_mku {α : Type} {f : α → List V} {z : α} {e : TypeId} {es eb : Nat} {ez : List V} {k0 k1 : IntKind} {n : Int} (hc : cns.contains d = true) (hx : opV σ x = .int k0 n) (hy : opV σ y = .int k1 n) (ht : tb s = some (.sl e es eb ez)) (hz : f z = ez) (hez : ez.length = es) (hn : 0 ≤ n ∧ n.toNat ≤ lim) (hb : notBox (σ d) = true) (k : K (upd σ d (.uni e (List.replicate n.toNat z).length ((List.replicate n.toNat z).flatMap f)))) : evO P tb cns ⟨some d, .makeSlice s x y, t, none⟩ σ K := by
  simp only [evO, hc, if_true, makeU, ht, hx, hy]
  refine ⟨trivial, hn.1, trivial, hn.2, hb, ?_⟩
  rw [zrow_flat hz hez]
  rw [List.length_replicate] at k
  exact k
theorem ev_pkT {b : Bool} (hb : opV σ x = .bool b) (e : b = true) (hy : opV σ y = c1) (hv : c1.isVal = true) (k : K (upd σ d (dg c1))) : evO P tb cns ⟨some d, .pick x y z, t, none⟩ σ K := by
  subst hy e
  refine ⟨?_, ?_⟩
  · simp only [pc, pickC, hb, if_true]; exact hv
  · simp only [pv, pickV, hb, if_true]; exact k
theorem ev_pkF {b : Bool} (hb : opV σ x = .bool b) (e : b = false) (hy : opV σ z = c1) (hv : c1.isVal = true) (k : K (upd σ d (dg c1))) : evO P tb cns ⟨some d, .pick x y z, t, none⟩ σ K := by
  subst hy e
  refine ⟨?_, ?_⟩
  · simp only [pc, pickC, hb, Bool.false_eq_true, if_false]; exact hv
  · simp only [pv, pickV, hb, Bool.false_eq_true, if_false]; exact k
def gOp (cns : List Nat) (d : Nat) : Op → Bool
  | .move _ => !cns.contains d
  | .load _ _ => !cns.contains d
  | .pick .. | .binOp .. | .unOp .. | .convert .. | .fieldAddr .. | .indexAddr .. | .index .. | .slice .. => true
  | .call c => match c.callee with
    | .value (.tmp _) => false
    | .value (.const _) => false
    | .value (.global _) => false
    | _ => true
  | .build .. | .buildSlice .. => true
  | _ => false
theorem ev_gs {op : Op} {q : Nat} {b : Bool} (hg : gOp cns d op = true) (hk : known (σ q) = true) (hq : isB b (σ q) = false) (k : K (upd σ d (.tup []))) : evO P tb cns ⟨some d, op, t, some (some q, b)⟩ σ K := by
  have hp : pureS tb ⟨some d, op, t, some (some q, b)⟩ σ K := by
    simp only [pureS]; exact ⟨hk, fun e => absurd e (by rw [hq]; simp), fun _ => k⟩
  cases op <;> first | (cases hg; done) | exact hp | skip
  case move x => simp only [gOp, Bool.not_eq_true'] at hg; simp only [evO, hg, Bool.false_eq_true, if_false]; exact hp
  case load s x => simp only [gOp, Bool.not_eq_true'] at hg; simp only [evO, hg, Bool.false_eq_true, if_false]; exact hp
  case call c =>
    obtain ⟨cal, args, ts⟩ := c
    cases cal with
    | value x =>
      cases x with
      | func f =>
        show callS P ⟨some d, .call ⟨.value (.func f), args, ts⟩, t, some (some q, b)⟩ f args.toList σ K
        unfold callS; exact ⟨hk, fun e => absurd e (by rw [hq]; simp), fun _ => k⟩
      | _ => cases hg
    | builtin bn =>
      simp only [evO, callS']
      split
      · rename_i heq; cases heq
      · rename_i hd _ _; cases hd; exact ⟨hk, fun e => absurd e (by rw [hq]; simp), fun _ => k⟩
      · exact hp
    | _ => exact hp
  case build s ps => exact ⟨hk, fun e => absurd e (by rw [hq]; simp), fun _ => k⟩
  case buildSlice s n ps => exact ⟨hk, fun e => absurd e (by rw [hq]; simp), fun _ => k⟩
theorem ev_gr {op : Op} {q : Nat} {b : Bool} (hg : gOp cns d op = true) (hq : σ q = .bool b) (h : evO P tb cns ⟨some d, op, t, none⟩ σ K) : evO P tb cns ⟨some d, op, t, some (some q, b)⟩ σ K := by
  have hk : known (σ q) = true := by rw [hq]; rfl
  have hb : isB b (σ q) = true := by rw [hq]; simp [isB]
  have hp : pureS tb ⟨some d, op, t, none⟩ σ K → pureS tb ⟨some d, op, t, some (some q, b)⟩ σ K := by
    intro h; simp only [pureS] at *; exact ⟨hk, fun _ => h, fun e => by rw [hb] at e; cases e⟩
  cases op <;> first | (cases hg; done) | exact hp h | skip
  case move x => simp only [gOp, Bool.not_eq_true'] at hg; simp only [evO, hg, Bool.false_eq_true, if_false] at h ⊢; exact hp h
  case load s x => simp only [gOp, Bool.not_eq_true'] at hg; simp only [evO, hg, Bool.false_eq_true, if_false] at h ⊢; exact hp h
  case call c =>
    obtain ⟨cal, args, ts⟩ := c
    cases cal with
    | value x =>
      cases x with
      | func f =>
        replace h : callS P ⟨some d, .call ⟨.value (.func f), args, ts⟩, t, none⟩ f args.toList σ K := h
        show callS P ⟨some d, .call ⟨.value (.func f), args, ts⟩, t, some (some q, b)⟩ f args.toList σ K
        unfold callS at h ⊢; exact ⟨hk, fun _ => h, fun e => absurd e (by rw [hb]; simp)⟩
      | _ => cases hg
    | builtin bn =>
      simp only [evO, callS'] at h ⊢
      split at h
      · rename_i heq; cases heq
      · exact ⟨hk, fun _ => h, fun e => absurd e (by rw [hb]; simp)⟩
      · exact hp h
    | _ => exact hp h
  case build s ps => exact ⟨hk, fun _ => h, fun e => absurd e (by rw [hb]; simp)⟩
  case buildSlice s n ps => exact ⟨hk, fun _ => h, fun e => absurd e (by rw [hb]; simp)⟩
theorem isb_F {e : Bool} (g : e = false) : isB true (.bool e) = false := by rw [g]; rfl
theorem isb_T {e : Bool} (g : e = true) : isB false (.bool e) = false := by rw [g]; rfl
end
section
variable {P : Program} {nt : Nat} {bx : List Nat} {σ : PS} {Q : Exit → PS → Prop} {tb : Tb} {cns : List Nat}
theorem ls_rs_k {ops : List LO} {y : LC} (htb : TbOk P tb) (h : ∀ K : PS → Prop, (∀ σ', LS P nt bx y σ' Q → K σ') → evS P tb cns ops σ K) : LS P nt bx (.seq (.rgn cns ops) y) σ Q := ls_rs htb (h _ fun _ h => h)
theorem ls_rd_k {fps : List (List Nat × List Nat)} {es : List (List Nat)} {ops : List LO} {y : LC} (htb : TbOk P tb) (hm : P.follows .mixedOrders = true) (hD : (okD fps es ops && okF cns fps ops) = true) (h : ∀ K : PS → Prop, (∀ σ', LS P nt bx y σ' Q → K σ') → evD P tb cns fps ops σ K) : LS P nt bx (.seq (.drw cns fps es ops) y) σ Q := ls_rd htb hm hD (h _ fun _ h => h)
end
def andI (a b : Int) : Int := IntKind.i64.wrap ((BitVec.ofInt IntKind.i64.bits a &&& BitVec.ofInt IntKind.i64.bits b).toNat : Int)
def orI (a b : Int) : Int := IntKind.i64.wrap ((BitVec.ofInt IntKind.i64.bits a ||| BitVec.ofInt IntKind.i64.bits b).toNat : Int)
def xorI (a b : Int) : Int := IntKind.i64.wrap ((BitVec.ofInt IntKind.i64.bits a ^^^ BitVec.ofInt IntKind.i64.bits b).toNat : Int)
def andNotI (a b : Int) : Int := IntKind.i64.wrap ((BitVec.ofInt IntKind.i64.bits a &&& ~~~BitVec.ofInt IntKind.i64.bits b).toNat : Int)
def shlI (a b : Int) : Int := IntKind.i64.wrap (a * 2 ^ (min b.toNat IntKind.i64.bits))
def shrI (a b : Int) : Int := a.fdiv (2 ^ (min b.toNat IntKind.i64.bits))
end Go.Proofs.Ytmioifafgbjjhaa

namespace Go.Proofs.Ytmioifafgbjjhaa
open Go.RowKit
set_option linter.unusedVariables false
theorem p2 {α β : Type} {a a' : α} {b b' : β} (h : (a, b) = (a', b')) : a = a' ∧ b = b' := Prod.mk.inj h
theorem p3 {α β γ : Type} {a a' : α} {b b' : β} {c c' : γ} (h : (a, b, c) = (a', b', c')) : a = a' ∧ b = b' ∧ c = c' := ⟨(p2 h).1, p2 (p2 h).2⟩
theorem p4 {α β γ δ : Type} {a a' : α} {b b' : β} {c c' : γ} {d d' : δ} (h : (a, b, c, d) = (a', b', c', d')) : a = a' ∧ b = b' ∧ c = c' ∧ d = d' := ⟨(p2 h).1, p3 (p2 h).2⟩
theorem p5 {α β γ δ ε : Type} {a a' : α} {b b' : β} {c c' : γ} {d d' : δ} {e e' : ε} (h : (a, b, c, d, e) = (a', b', c', d', e')) : a = a' ∧ b = b' ∧ c = c' ∧ d = d' ∧ e = e' := ⟨(p2 h).1, p4 (p2 h).2⟩
theorem p6 {α β γ δ ε ζ : Type} {a a' : α} {b b' : β} {c c' : γ} {d d' : δ} {e e' : ε} {f f' : ζ} (h : (a, b, c, d, e, f) = (a', b', c', d', e', f')) : a = a' ∧ b = b' ∧ c = c' ∧ d = d' ∧ e = e' ∧ f = f' := ⟨(p2 h).1, p5 (p2 h).2⟩
section
variable {P : Program} {tb : Tb} {cns : List Nat} {σ : PS} {K : PS → Prop} {d s t : Nat} {x y z : Operand}
theorem oM (c : V) (h : (cns.contains d, σ s, c.isVal) = (false, c, true)) (k : K (upd σ d (dg c))) : evO P tb cns ⟨some d, .move (.tmp s), t, none⟩ σ K := ev_mv (p3 h).1 (p3 h).2.1 (p3 h).2.2 k
theorem oT (c : V) (h : (cns.contains d, σ s, c.isVal) = (true, c, true)) (k : K (upd (upd σ s (dg c)) d c)) : evO P tb cns ⟨some d, .move (.tmp s), t, none⟩ σ K := ev_mvt (p3 h).1 (p3 h).2.1 (p3 h).2.2 k
theorem oA (c : V) (h : (cns.contains d, σ s, c.isVal) = (false, c, true)) (k : K (upd (upd σ s (dg c)) d c)) : evO P tb cns ⟨some d, .assign (.tmp s), t, none⟩ σ K := ev_as (p3 h).1 (p3 h).2.1 (p3 h).2.2 k
theorem oB {op : BinOp} {ta tc : TypeId} (c1 c2 : V) (h : (opV σ x, opV σ y) = (c1, c2)) (hc : binC (tb ta) op c1 c2) (k : K (upd σ d (binV op c1 c2))) : evO P tb cns ⟨some d, .binOp op ta x y tc, t, none⟩ σ K := ev_bin (p2 h).1 (p2 h).2 hc k
theorem oN {ta : TypeId} {e : TypeId} {es eb : Nat} {ez : List V} {n : Nat} {cs : List V} (c : V) (h : (opV σ x, slOf c, tb ta) = (c, some (n, cs), some (.sl e es eb ez))) (k : K (upd σ d (.int .i64 n))) : evO P tb cns ⟨some d, .call { callee := .builtin .len, args := #[x], argTypes := #[ta] }, t, none⟩ σ K := ev_len (p3 h).1 (p3 h).2.1 (p3 h).2.2 k
theorem oL1 {b : Nat} {cs : List V} {dd : TyD} (off : Nat) (v : V) (h : (cns.contains d, adV σ x, bxOf (σ b), tb s, Nat.ble (off + dd.size) cs.length, getCells dd cs off) = (false, .cref b off, some cs, some dd, true, v)) (k : K (upd σ d v)) : evO P tb cns ⟨some d, .load s x, t, none⟩ σ K := ev_ldB (p6 h).1 (p6 h).2.1 (p6 h).2.2.1 (p6 h).2.2.2.1 (nb (p6 h).2.2.2.2.1) (p6 h).2.2.2.2.2 k
theorem oF {n sz f : Nat} {z : List V} {fs : List (Nat × Nat)} {off : Nat} (b o : Nat) (h : (adV σ x, tb s, fs[f]?) = (.cref b o, some (.st n z fs), some (off, sz))) (hc : faC σ (.cref b o)) (k : K (upd σ d (faV off (.cref b o)))) : evO P tb cns ⟨some d, .fieldAddr s x f, t, none⟩ σ K := ev_fa (p3 h).1 (p3 h).2.1 (p3 h).2.2 hc rfl k
theorem oGT {op : Op} {q : Nat} {e : Bool} (g : e = true) (h : (gOp cns d op, σ q) = (true, .bool e)) (k : K (upd σ d (.tup []))) : evO P tb cns ⟨some d, op, t, some (some q, false)⟩ σ K := by
 subst g; obtain ⟨h1, h2⟩ := p2 h; exact ev_gs h1 (by rw [h2]; rfl) (by rw [h2]; rfl) k
theorem oGF {op : Op} {q : Nat} {e : Bool} (g : e = false) (h : (gOp cns d op, σ q) = (true, .bool e)) (k : K (upd σ d (.tup []))) : evO P tb cns ⟨some d, op, t, some (some q, true)⟩ σ K := by
 subst g; obtain ⟨h1, h2⟩ := p2 h; exact ev_gs h1 (by rw [h2]; rfl) (by rw [h2]; rfl) k
theorem oGR {op : Op} {q : Nat} {e b : Bool} (g : e = b) (h : (gOp cns d op, σ q) = (true, .bool e)) (k : evO P tb cns ⟨some d, op, t, none⟩ σ K) : evO P tb cns ⟨some d, op, t, some (some q, b)⟩ σ K := by
 subst g; obtain ⟨h1, h2⟩ := p2 h; exact ev_gr h1 h2 k
theorem oPT {b : Bool} (c : V) (e : b = true) (h : (opV σ x, opV σ y, c.isVal) = (.bool b, c, true)) (k : K (upd σ d (dg c))) : evO P tb cns ⟨some d, .pick x y z, t, none⟩ σ K := ev_pkT (p3 h).1 e (p3 h).2.1 (p3 h).2.2 k
theorem oPF {b : Bool} (c : V) (e : b = false) (h : (opV σ x, opV σ z, c.isVal) = (.bool b, c, true)) (k : K (upd σ d (dg c))) : evO P tb cns ⟨some d, .pick x y z, t, none⟩ σ K := ev_pkF (p3 h).1 e (p3 h).2.1 (p3 h).2.2 k
theorem oS {ty : TypeId} {b : Nat} {cs : List V} {dd : TyD} (off : Nat) (c : V) (cs' : List V) (h : (adV σ x, σ b, σ s, tb t, c.isArg, ((cellsV c).length == dd.size && Nat.ble (off + dd.size) cs.length)) = (.cref b off, .box cs, c, some dd, true, true)) (hr : repl cs off (cellsV c) = cs') (k : K (upd (upd σ s (dg c)) b (.box cs'))) :
    evO P tb cns ⟨none, .store t x (.tmp s), ty, none⟩ σ K := by
 obtain ⟨h1, h2, h3, h4, h5, h6⟩ := p6 h
 simp only [Bool.and_eq_true, beq_iff_eq] at h6
 exact ev_st h1 h2 h3 h4 h5 h6.1 (nb h6.2) hr k
theorem oX {ty : TypeId} (c : V) (h : (σ s, c.isArg, notBox (upd σ s (dg c) d)) = (c, true, true)) (k : K (upd (upd σ s (dg c)) d (.box (cellsV c)))) : evO P tb cns ⟨some d, .box ty (.tmp s), t, none⟩ σ K := ev_bx (p3 h).1 (p3 h).2.1 (p3 h).2.2 k
theorem oC {v : Value} (hn : v ≠ .slice none 0 0) (h : (cns.contains d, (cV v).isVal) = (false, true)) (k : K (upd σ d (cV v))) : evO P tb cns ⟨some d, .assign (.const v), t, none⟩ σ K := ev_ac (p2 h).1 hn (p2 h).2 k
theorem ed {o : LO} {os : List LO} {R W : List Nat} {fps : List (List Nat × List Nat)} (h : ((adP o.op).all (fun p => bas R (σ p)), (adU cns o).all (fun p => bas R (σ p))) = (true, true)) (k : evO P tb cns o σ (fun σ' => evD P tb cns fps os σ' K)) : evD P tb cns ((R, W) :: fps) (o :: os) σ K := evd (p2 h).1 (p2 h).2 k
theorem eE {α : Type} {f g : α → List V} (h : ∀ x, erL (f x) = g x) (l : List α) : er (dL f l) = dL g l := erD h l
end
def vA (σ : PS) : List (Nat × V) → List V
  | [] => []
  | (s, _) :: L => σ s :: vA σ L
def vB : List (Nat × V) → List V
  | [] => []
  | (_, c) :: L => c :: vB L
theorem okr {σ : PS} : ∀ {L : List (Nat × V)}, vA σ L = vB L → okK σ L
  | [], _ => trivial
  | (s, c) :: L, h => by
    injection h with h1 h2
    exact ⟨h1 ▸ kr, okr h2⟩
section
variable {P : Program} {nt : Nat} {bx : List Nat} {σ : PS} {Q : Exit → PS → Prop} {tb : Tb} {cns : List Nat}
theorem kp {l : LC} (L : List (Nat × V)) (h1 : vA σ L = vB L) (h2 : okR L = true) (h : LS P nt bx l (ofL L) Q) : LS P nt bx l σ Q := ls_keep L (okr h1) h2 h
theorem kq {l : LC} (L : List (Nat × V)) (h1 : okK σ L) (h2 : okR L = true) (h : LS P nt bx l (ofL L) Q) : LS P nt bx l σ Q := ls_keep L h1 h2 h
theorem en {l : LC} (L : List (Nat × V)) (h1 : vA σ L = vB L) (h2 : okR L = true) (h : LS P nt bx l (ofL L) Q) : evS P tb cns [] σ (fun σ' => LS P nt bx l σ' Q) := ls_keep L (okr h1) h2 h
end
end Go.Proofs.Ytmioifafgbjjhaa

namespace Go.Proofs.Ytmioifafgbjjhaa
open Go.RowKit
set_option linter.unusedVariables false
abbrev PL := List (Nat × V)
def ifB {α : Type} (b : Bool) (x : Option α) : Option α := match b with
  | true => x
  | false => none
theorem if_some {α : Type} {b : Bool} {x : Option α} {r : α} (h : ifB b x = some r) : b = true ∧ x = some r := by
  cases b with
  | true => exact ⟨rfl, h⟩
  | false => cases h
def frc1 : V → Option V
  | .int k n => some (.int k n)
  | .bool b => some (.bool b)
  | .str s => some (.str s)
  | .own e n cs => some (.own e n cs)
  | .dat n cs => some (.dat n cs)
  | .arg n cs => some (.arg n cs)
  | .pin u n cs => some (.pin u n cs)
  | .fn f => some (.fn f)
  | _ => none
def frcC : List V → Option (List V)
  | [] => some []
  | c :: cs => obind (frc1 c) fun a => obind (frcC cs) fun as => some (a :: as)
def frc2 : V → Option V
  | .agg cs => obind (frcC cs) fun as => some (.agg as)
  | c => frc1 c
def frcT : List V → Option (List V)
  | [] => some []
  | c :: cs => obind (frc2 c) fun a => obind (frcT cs) fun as => some (a :: as)
def frc : V → Option V
  | .tup cs => obind (frcT cs) fun as => some (.tup as)
  | .box cs => obind (frcC cs) fun as => some (.box as)
  | .cref s o => some (.cref s o)
  | .adr cs o => some (.adr cs o)
  | .same s => some (.same s)
  | .uni e n cs => some (.uni e n cs)
  | c => frc2 c
theorem frc1_eq {c d : V} (h : frc1 c = some d) : d = c := by cases c <;> first | (cases h; rfl) | cases h
theorem frcC_eq : ∀ {cs ds : List V}, frcC cs = some ds → ds = cs
  | [], _, h => by cases h; rfl
  | c :: cs, _, h => by
    rw [frcC] at h
    obtain ⟨a, h1, h⟩ := ob_some h
    obtain ⟨as, h2, h⟩ := ob_some h
    cases h; rw [frc1_eq h1, frcC_eq h2]
theorem frc2_eq {c d : V} (h : frc2 c = some d) : d = c := by
  cases c with
  | agg cs => obtain ⟨as, h2, h⟩ := ob_some (show obind (frcC cs) _ = _ from h); cases h; rw [frcC_eq h2]
  | _ => exact frc1_eq h
theorem frcT_eq : ∀ {cs ds : List V}, frcT cs = some ds → ds = cs
  | [], _, h => by cases h; rfl
  | c :: cs, _, h => by
    rw [frcT] at h
    obtain ⟨a, h1, h⟩ := ob_some h
    obtain ⟨as, h2, h⟩ := ob_some h
    cases h; rw [frc2_eq h1, frcT_eq h2]
theorem frc_eq {c d : V} (h : frc c = some d) : d = c := by
  cases c with
  | tup cs => obtain ⟨as, h2, h⟩ := ob_some (show obind (frcT cs) _ = _ from h); cases h; rw [frcT_eq h2]
  | box cs => obtain ⟨as, h2, h⟩ := ob_some (show obind (frcC cs) _ = _ from h); cases h; rw [frcC_eq h2]
  | cref s o => cases h; rfl
  | adr s o => cases h; rfl
  | same s => cases h; rfl
  | uni e n cs => cases h; rfl
  | _ => exact frc2_eq h
def lk : PL → Nat → Option V
  | [], _ => none
  | (s, c) :: L, q => match Nat.beq q s with
    | true => some c
    | false => lk L q
theorem ofL_cons (s : Nat) (c : V) (L : PL) : ofL ((s, c) :: L) = upd (ofL L) s c := rfl
theorem lk_get : ∀ (L : PL) (q : Nat), ofL L q = (lk L q).getD .undef
  | [], _ => rfl
  | (s, c) :: L, q => by
    rw [lk, ofL_cons]
    cases h : Nat.beq q s with
    | true => rw [Nat.eq_of_beq_eq_true h, upd_same]; rfl
    | false => rw [upd_ne _ _ (Nat.ne_of_beq_eq_false h)]; exact lk_get L q
theorem lk_ok {L : PL} {q : Nat} {c : V} (h : lk L q = some c) : ofL L q = c := by rw [lk_get, h]; rfl
def opO (L : PL) : Operand → Option V
  | .tmp s => lk L s
  | .const v => frc (cV v)
  | .func f => some (.fn f)
  | _ => none
theorem opO_ok {L : PL} {x : Operand} {c : V} (h : opO L x = some c) : opV (ofL L) x = c := by
  cases x with
  | tmp s => exact lk_ok h
  | const v => exact (frc_eq h).symm
  | func f => cases h; rfl
  | _ => cases h
def adO (L : PL) : Operand → Option V
  | .tmp s => obind (lk L s) fun c => match c with
    | .box _ => some (.cref s 0)
    | c => some c
  | _ => none
theorem adO_ok {L : PL} {x : Operand} {c : V} (h : adO L x = some c) : adV (ofL L) x = c := by
  cases x with
  | tmp s =>
    obtain ⟨a, h1, h⟩ := ob_some (show obind (lk L s) _ = _ from h)
    have := lk_ok h1
    simp only [adV, this]
    cases a <;> (cases h; rfl)
  | _ => cases h
def own1 : V → Bool
  | .own .. => true
  | _ => false
def own2 : V → Bool
  | .agg cs => cs.any own1
  | c => own1 c
def ownV : V → Bool
  | .tup cs => cs.any own2
  | c => own2 c
theorem own1_dg {c : V} (h : own1 c = false) : dg1 c = c := by cases c <;> first | rfl | cases h
theorem own1_map : ∀ {cs : List V}, cs.any own1 = false → cs.map dg1 = cs
  | [], _ => rfl
  | c :: cs, h => by
    rw [List.any_cons, Bool.or_eq_false_iff] at h
    rw [List.map_cons, own1_dg h.1, own1_map h.2]
theorem own2_dg {c : V} (h : own2 c = false) : dg2 c = c := by
  cases c with
  | agg cs => rw [dg2, own1_map h]
  | _ => first | rfl | cases h
theorem own2_map : ∀ {cs : List V}, cs.any own2 = false → cs.map dg2 = cs
  | [], _ => rfl
  | c :: cs, h => by
    rw [List.any_cons, Bool.or_eq_false_iff] at h
    rw [List.map_cons, own2_dg h.1, own2_map h.2]
theorem own_dg {c : V} (h : ownV c = false) : dg c = c := by
  cases c with
  | tup cs => rw [dg, own2_map h]
  | agg cs => exact own2_dg (c := .agg cs) h
  | _ => first | rfl | cases h
theorem upd_self (σ : PS) (s : Nat) : upd σ s (σ s) = σ := by
  funext q
  by_cases e : q = s
  · rw [e, upd_same]
  · rw [upd_ne _ _ e]
def takeL (L : PL) (x : Operand) (c : V) : Option PL := match x with
  | .tmp s => match ownV c with
    | false => some L
    | true => obind (frc (dg c)) fun c' => some ((s, c') :: L)
  | _ => some L
theorem takeL_ok {L L' : PL} {x : Operand} {c : V} (h : opO L x = some c) (h2 : takeL L x c = some L') : ofL L' = takeS (ofL L) x := by
  cases x with
  | tmp s =>
    have e := lk_ok h
    simp only [takeL, takeS] at h2 ⊢
    split at h2
    · rename_i ho
      cases h2
      rw [e, own_dg ho, ← e, upd_self]
    · obtain ⟨c', h3, h2⟩ := ob_some h2
      cases h2
      rw [frc_eq h3, ofL_cons, e]
  | _ => cases h2; rfl
def mvO (L : PL) : Operand → Option V
  | .tmp s => obind (lk L s) fun c => match c with
    | .uni _ _ _ => some (.same s)
    | .same b => some (.same b)
    | c => ifB c.isVal (frc (dg c))
  | .const v => obind (frc (cV v)) fun c => ifB c.isVal (frc (dg c))
  | _ => none
def isBoolT : Option TyD → Bool
  | some (.sc (.bool false)) => true
  | _ => false
def kEq : IntKind → IntKind → Bool
  | .i64, .i64 => true
  | .u8, .u8 => true
  | k, k' => decide (k = k')
theorem kEq_ok {k k' : IntKind} (h : kEq k k' = true) : k = k' := by
  cases k <;> cases k' <;> first | rfl | cases h
def binB (d : Option TyD) : BinOp → V → V → Bool
  | .shl, .int _ _, .int _ b => decide (0 ≤ b)
  | .shr, .int _ _, .int _ b => decide (0 ≤ b)
  | .quo, .int k _, .int k' b => kEq k k' && !decide (b = 0)
  | .rem, .int k _, .int k' b => kEq k k' && !decide (b = 0)
  | _, .int k _, .int k' _ => kEq k k'
  | .eql, .str _, .str _ => true
  | .neq, .str _, .str _ => true
  | .lss, .str _, .str _ => true
  | .leq, .str _, .str _ => true
  | .gtr, .str _, .str _ => true
  | .geq, .str _, .str _ => true
  | .eql, .bool _, .bool _ => isBoolT d
  | .neq, .bool _, .bool _ => isBoolT d
  | _, _, _ => false
def unB : UnOp → V → Bool
  | .not, .bool _ => true
  | .neg, .int _ _ => true
  | _, _ => false
def cvB (tb : Tb) (s d : TypeId) (x : V) : Option V := match tb s, tb d, x with
  | some _, some (.sc (.int k _)), .int _ n => some (.int k (k.wrap n))
  | _, _, _ => none
def bxL (L : PL) (s : Nat) : Option (List V) := obind (lk L s) bxOf
def loadO (tb : Tb) (L : PL) (t : TypeId) (x : Operand) : Option V := obind (tb t) fun d => obind (adO L x) fun c => match c with
  | .cref s off => obind (bxL L s) fun cs => ifB (Nat.ble (off + d.size) cs.length) (frc (getCells d cs off))
  | .adr cs off => ifB (Nat.ble (off + d.size) cs.length) (frc (getCells d cs off))
  | _ => none
def faO (tb : Tb) (L : PL) (t : TypeId) (x : Operand) (f : Nat) : Option V := obind (tb t) fun d => match d with
  | .st _ _ fs => obind (fs[f]?) fun p => obind (adO L x) fun c => match c with
    | .cref s o => obind (bxL L s) fun _ => some (.cref s (o + p.1))
    | .adr cs o => some (.adr cs (o + p.1))
    | _ => none
  | _ => none
def isStrT : Option TyD → Bool
  | some (.sc (.str [])) => true
  | _ => false
def isSlT : Option TyD → Bool
  | some (.sl ..) => true
  | _ => false
def lenO (L : PL) (d : Option TyD) : V → Option V
  | .str s => ifB (isStrT d) (some (.int .i64 s.length))
  | .same b => obind (lk L b) fun c => match c with
    | .uni _ n _ => ifB (isSlT d) (some (.int .i64 n))
    | _ => none
  | c => obind (slOf c) fun p => ifB (isSlT d) (some (.int .i64 p.1))
def mxO (mx : Bool) (x y : V) : Option V := match x, y with
  | .int k a, .int _ b => some (.int k (if mx then (if a < b then b else a) else (if b < a then b else a)))
  | _, _ => none
def callO (tb : Tb) (L : PL) : Callee → List Operand → List TypeId → Option V
  | .builtin .len, [x], [t] => obind (opO L x) (lenO L (tb t))
  | .builtin .max, [x, y], _ => obind (opO L x) fun a => obind (opO L y) fun b => match a, b with
    | .int k a, .int _ b => some (.int k (if a < b then b else a))
    | _, _ => none
  | .builtin .min, [x, y], _ => obind (opO L x) fun a => obind (opO L y) fun b => match a, b with
    | .int k a, .int _ b => some (.int k (if b < a then b else a))
    | _, _ => none
  | _, _, _ => none
def pureO (tb : Tb) (L : PL) : Op → Option V
  | .move x => mvO L x
  | .pick c a b => obind (opO L c) fun q => match q with
    | .bool e => match e with
      | true => obind (opO L a) fun c => ifB c.isVal (frc (dg c))
      | false => obind (opO L b) fun c => ifB c.isVal (frc (dg c))
    | _ => none
  | .binOp op t x y _ => obind (opO L x) fun a => obind (opO L y) fun b => ifB (binB (tb t) op a b) (frc (binV op a b))
  | .unOp op _ x => obind (opO L x) fun a => ifB (unB op a) (frc (unV op a))
  | .convert s d x => obind (opO L x) fun a => cvB tb s d a
  | .load t x => loadO tb L t x
  | .fieldAddr t x f => faO tb L t x f
  | .call c => callO tb L c.callee c.args.toList c.argTypes.toList
  | _ => none
theorem isBoolT_ok {d : Option TyD} (h : isBoolT d = true) : d = some (.sc (.bool false)) := by
  unfold isBoolT at h
  split at h
  · rfl
  · cases h
theorem isStrT_ok {d : Option TyD} (h : isStrT d = true) : d = some (.sc (.str [])) := by
  unfold isStrT at h
  split at h
  · rfl
  · cases h
theorem isSlT_ok {d : Option TyD} (h : isSlT d = true) : ∃ e es eb ez, d = some (.sl e es eb ez) := by
  unfold isSlT at h
  split at h
  · exact ⟨_, _, _, _, rfl⟩
  · cases h
theorem binB_ok {d : Option TyD} {op : BinOp} {a b : V} (h : binB d op a b = true) : binC d op a b := by
  cases a <;> cases b <;> cases op <;> first | (cases h; done) | exact trivial | exact isBoolT_ok h | exact kEq_ok h | (simp only [binB, decide_eq_true_eq] at h; exact h) | (simp only [binB, Bool.and_eq_true, Bool.not_eq_true', decide_eq_false_iff_not] at h; exact ⟨kEq_ok h.1, h.2⟩)
theorem unB_ok {op : UnOp} {a : V} (h : unB op a = true) : unC op a := by
  cases a <;> cases op <;> first | (cases h; done) | exact trivial
theorem val_mv {σ : PS} {s : Nat} {c : V} (e : σ s = c) (h : c.isVal = true) : mvC σ (.tmp s) ∧ mvV σ (.tmp s) = dg c := by
  subst e
  simp only [mvC, mvV]
  cases hc : σ s <;> rw [hc] at h <;> first | (cases h; done) | exact ⟨h, rfl⟩
theorem mvO_ok {L : PL} {x : Operand} {v : V} (h : mvO L x = some v) : mvC (ofL L) x ∧ mvV (ofL L) x = v := by
  cases x with
  | tmp s =>
    obtain ⟨c, h1, h⟩ := ob_some (show obind (lk L s) _ = _ from h)
    have e := lk_ok h1
    cases c with
    | uni a b c => cases h; simp only [mvC, mvV, e]; exact ⟨trivial, trivial⟩
    | same b => cases h; simp only [mvC, mvV, e]; exact ⟨trivial, trivial⟩
    | _ =>
      obtain ⟨h2, h3⟩ := if_some h
      obtain ⟨h4, h5⟩ := val_mv e h2
      exact ⟨h4, h5.trans (frc_eq h3).symm⟩
  | const c =>
    obtain ⟨c, h1, h⟩ := ob_some (show obind (frc (cV c)) _ = _ from h)
    obtain ⟨h2, h3⟩ := if_some h
    have e := frc_eq h1
    subst e
    exact ⟨h2, (frc_eq h3).symm⟩
  | _ => cases h
theorem loadO_ok {tb : Tb} {L : PL} {t : TypeId} {x : Operand} {v : V} (h : loadO tb L t x = some v) : loadC' (tb t) (ofL L) (adV (ofL L) x) ∧ loadV' (tb t) (ofL L) (adV (ofL L) x) = v := by
  obtain ⟨d, h1, h⟩ := ob_some h
  obtain ⟨c, h2, h⟩ := ob_some h
  rw [h1, adO_ok h2]
  simp only [loadC', loadV']
  cases c with
  | cref s off =>
    obtain ⟨cs, h3, h⟩ := ob_some h
    obtain ⟨h4, h⟩ := if_some h
    obtain ⟨c, h5, h6⟩ := ob_some h3
    have := lk_ok h5
    simp only [loadC, loadV, this, h6]
    exact ⟨nb h4, (frc_eq h).symm⟩
  | adr cs off =>
    obtain ⟨h4, h⟩ := if_some h
    exact ⟨nb h4, (frc_eq h).symm⟩
  | _ => cases h
theorem faO_ok {tb : Tb} {L : PL} {t : TypeId} {x : Operand} {f : Nat} {v : V} (h : faO tb L t x f = some v) : faC' (tb t) f (ofL L) (adV (ofL L) x) ∧ faV' (tb t) f (adV (ofL L) x) = v := by
  obtain ⟨d, h1, h⟩ := ob_some h
  cases d with
  | st n z fs =>
    obtain ⟨p, h2, h⟩ := ob_some h
    obtain ⟨c, h3, h⟩ := ob_some h
    rw [h1, adO_ok h3]
    simp only [faC', faV', h2]
    cases c with
    | cref s o =>
      obtain ⟨cs, h4, h⟩ := ob_some h
      obtain ⟨c, h5, h6⟩ := ob_some h4
      cases h
      have := lk_ok h5
      exact ⟨⟨cs, by rw [this, h6]⟩, rfl⟩
    | adr cs o => cases h; exact ⟨trivial, rfl⟩
    | _ => cases h
  | _ => cases h
theorem len_sl {L : PL} {d : Option TyD} {c v : V} {n : Nat} {cs : List V} (hs : slOf c = some (n, cs)) (h : ifB (isSlT d) (some (V.int .i64 n)) = some v) : lenSC d (ofL L) c ∧ lenS (ofL L) c = v := by
  obtain ⟨h2, h⟩ := if_some h
  obtain ⟨a, b, z, q, rfl⟩ := isSlT_ok h2
  cases h
  cases c <;> first | (cases hs; done) | (cases hs; exact ⟨trivial, rfl⟩)
theorem lenO_ok {L : PL} {d : Option TyD} {c v : V} (h : lenO L d c = some v) : lenSC d (ofL L) c ∧ lenS (ofL L) c = v := by
  cases c with
  | str s =>
    obtain ⟨h1, h⟩ := if_some (show ifB (isStrT d) _ = _ from h)
    cases h; exact ⟨isStrT_ok h1, rfl⟩
  | same b =>
    obtain ⟨c, h1, h⟩ := ob_some (show obind (lk L b) _ = _ from h)
    have := lk_ok h1
    cases c with
    | uni e n cs =>
      obtain ⟨h2, h⟩ := if_some h
      obtain ⟨a, b, c, z, rfl⟩ := isSlT_ok h2
      cases h
      simp only [lenSC, lenS, this]; exact ⟨trivial, trivial⟩
    | _ => cases h
  | own e n cs => exact len_sl rfl h
  | dat n cs => exact len_sl rfl h
  | arg n cs => exact len_sl rfl h
  | pin u n cs => exact len_sl rfl h
  | _ => cases h
theorem callO_ok {tb : Tb} {L : PL} {c : Callee} {xs : List Operand} {ts : List TypeId} {v : V} (h : callO tb L c xs ts = some v) : pcCall tb (ofL L) c xs ts ∧ pvCall (ofL L) c xs = v := by
  unfold callO at h
  split at h
  · obtain ⟨a, h1, h⟩ := ob_some h
    simp only [pcCall, pvCall, opO_ok h1]
    exact lenO_ok h
  · obtain ⟨a, h1, h⟩ := ob_some h
    obtain ⟨b, h2, h⟩ := ob_some h
    simp only [pcCall, pvCall, opO_ok h1, opO_ok h2]
    split at h
    · cases h; exact ⟨trivial, rfl⟩
    · cases h
  · obtain ⟨a, h1, h⟩ := ob_some h
    obtain ⟨b, h2, h⟩ := ob_some h
    simp only [pcCall, pvCall, opO_ok h1, opO_ok h2]
    split at h
    · cases h; exact ⟨trivial, rfl⟩
    · cases h
  · cases h
theorem pureO_ok {tb : Tb} {L : PL} {op : Op} {v : V} (h : pureO tb L op = some v) : pc tb (ofL L) op ∧ pv tb (ofL L) op = v := by
  cases op with
  | move x => exact mvO_ok h
  | pick c a b =>
    obtain ⟨q, h1, h⟩ := ob_some (show obind (opO L c) _ = _ from h)
    simp only [pc, pv, opO_ok h1]
    cases q with
    | bool e =>
      cases e with
      | true =>
        obtain ⟨c, h2, h⟩ := ob_some h
        obtain ⟨h3, h⟩ := if_some h
        simp only [pickC, pickV, opO_ok h2, if_true]; exact ⟨h3, (frc_eq h).symm⟩
      | false =>
        obtain ⟨c, h2, h⟩ := ob_some h
        obtain ⟨h3, h⟩ := if_some h
        simp only [pickC, pickV, opO_ok h2, Bool.false_eq_true, if_false]; exact ⟨h3, (frc_eq h).symm⟩
    | _ => cases h
  | binOp op t x y t' =>
    obtain ⟨a, h1, h⟩ := ob_some (show obind (opO L x) _ = _ from h)
    obtain ⟨b, h2, h⟩ := ob_some h
    obtain ⟨h3, h⟩ := if_some h
    simp only [pc, pv, opO_ok h1, opO_ok h2]
    exact ⟨binB_ok h3, (frc_eq h).symm⟩
  | unOp op t x =>
    obtain ⟨a, h1, h⟩ := ob_some (show obind (opO L x) _ = _ from h)
    obtain ⟨h3, h⟩ := if_some h
    simp only [pc, pv, opO_ok h1]
    exact ⟨unB_ok h3, (frc_eq h).symm⟩
  | convert s d x =>
    obtain ⟨a, h1, h⟩ := ob_some (show obind (opO L x) _ = _ from h)
    simp only [pc, pv, opO_ok h1]
    unfold cvB at h
    split at h
    · rename_i h2 h3
      cases h
      simp only [convC, convV, h2, h3]; exact ⟨trivial, trivial⟩
    · cases h
  | load t x => exact loadO_ok h
  | fieldAddr t x f => exact faO_ok h
  | call c => exact callO_ok h
  | _ => cases h
def grdO (L : PL) (g : Option (Option Nat × Bool)) (d : Nat) (v : Option PL) : Option PL := match g with
  | none => v
  | some (some q, b) => obind (lk L q) fun c => match c with
    | .bool e => match e, b with
      | true, true => v
      | false, false => v
      | _, _ => some ((d, .tup []) :: L)
    | .tup _ => some ((d, .tup []) :: L)
    | _ => none
  | some (none, _) => none
def asgO (tb : Tb) (t : TypeId) (x : Operand) (d : Nat) (L : PL) : Option PL := match x with
  | .const (.slice none 0 0) => obind (tb t) fun dd => match dd with
    | .sl e _ _ _ => some ((d, .own e 0 []) :: L)
    | _ => none
  | .tmp p => obind (lk L p) fun c => ifB c.isVal (obind (takeL L (.tmp p) c) fun L' => some ((d, c) :: L'))
  | .const v => obind (frc (cV v)) fun c => ifB c.isVal (some ((d, c) :: L))
  | _ => none
def loadT (tb : Tb) (t : TypeId) (x : Operand) (d : Nat) (L : PL) : Option PL := obind (tb t) fun dd => obind (adO L x) fun a => match a with
  | .cref s off => obind (lk L s) fun c => match c with
    | .box cs => ifB (Nat.ble (off + dd.size) cs.length) (obind (frc (.box (leftCells dd.size cs off))) fun b => obind (frc (ownCells dd cs off)) fun v => some ((d, v) :: (s, b) :: L))
    | _ => none
  | .adr cs off => ifB (Nat.ble (off + dd.size) cs.length) (obind (frc (getCells dd cs off)) fun v => some ((d, v) :: L))
  | _ => none
def extO (s i d : Nat) (L : PL) : Option PL := obind (lk L s) fun t => match t with
  | .tup cs => obind (cs[i]?) fun c => ifB (cs.all V.isArg) (obind (frc (.tup (cs.set i (dg2 c)))) fun t' => some ((d, c) :: (s, t') :: L))
  | _ => none
def stoO (tb : Tb) (t : TypeId) (x y : Operand) (L : PL) : Option PL := obind (tb t) fun dd => obind (adO L x) fun a => match a with
  | .cref s off => obind (lk L s) fun b => match b with
    | .box cs => obind (opO L y) fun c => ifB (c.isArg && (Nat.beq (cellsV c).length dd.size && Nat.ble (off + dd.size) cs.length)) (obind (takeL L y c) fun L' => obind (frc (.box (repl cs off (cellsV c)))) fun b' => some ((s, b') :: L'))
    | _ => none
  | _ => none
def nbL (L : PL) (d : Nat) : Bool := match lk L d with
  | some c => notBox c
  | none => true
theorem nbL_ok {L : PL} {d : Nat} (h : nbL L d = true) : notBox (ofL L d) = true := by
  unfold nbL at h
  rw [lk_get]
  cases hl : lk L d with
  | none => rfl
  | some c => rw [hl] at h; exact h
def alO (tb : Tb) (t : TypeId) (d : Nat) (L : PL) : Option PL := obind (tb t) fun dd => ifB (nbL L d) (obind (frc (.box (zeroL dd))) fun b => some ((d, b) :: L))
def boxO (x : Operand) (d : Nat) (L : PL) : Option PL := obind (opO L x) fun c => ifB c.isArg (obind (takeL L x c) fun L' => ifB (nbL L' d) (obind (frc (.box (cellsV c))) fun b => some ((d, b) :: L')))
def fillO (place : Nat → Option (Nat × Nat)) : List (Nat × Operand) → PL → List V → Option (PL × List V)
  | [], L, cs => some (L, cs)
  | (i, x) :: r, L, cs => obind (place i) fun p => obind (opO L x) fun c => ifB (c.isArg && (Nat.beq (cellsV c).length p.2 && Nat.ble (p.1 + p.2) cs.length)) (obind (takeL L x c) fun L' => fillO place r L' (repl cs p.1 (cellsV c)))
theorem fillO_ok {place : Nat → Option (Nat × Nat)} : ∀ {ps : List (Nat × Operand)} {L L' : PL} {cs cs' : List V}, fillO place ps L cs = some (L', cs') → fillP place ps (ofL L) cs = some (ofL L', cs')
  | [], _, _, _, _, h => by cases h; rfl
  | (i, x) :: r, L, L', cs, cs', h => by
    rw [fillO] at h
    obtain ⟨p, h1, h⟩ := ob_some h
    obtain ⟨c, h2, h⟩ := ob_some h
    obtain ⟨h3, h⟩ := if_some h
    obtain ⟨L1, h4, h⟩ := ob_some h
    simp only [Bool.and_eq_true] at h3
    rw [fillP, h1]
    simp only
    rw [opO_ok h2, if_pos ⟨h3.1, Nat.eq_of_beq_eq_true h3.2.1, nb h3.2.2⟩, ← takeL_ok h2 h4]
    exact fillO_ok h
def bldO (tb : Tb) (t : TypeId) (ps : List (Nat × Operand)) (d : Nat) (L : PL) : Option PL := obind (tb t) fun dd => match dd with
  | .st _ z fs => obind (fillO (fun i => fs[i]?) ps L z) fun q => obind (frc (.agg q.2)) fun c => some ((d, c) :: q.1)
  | _ => none
def stepO (tb : Tb) (cns : List Nat) (o : LO) (L : PL) : Option PL := match o with
  | ⟨some d, op, t, g⟩ => match op with
    | .assign x => match g, cns.contains d with
      | none, false => asgO tb t x d L
      | _, _ => none
    | .move x => match cns.contains d with
      | true => (match g with
        | none => asgO tb t x d L
        | _ => none)
      | false => grdO L g d (obind (mvO L x) fun v => some ((d, v) :: L))
    | .load t x => match cns.contains d with
      | true => (match g with
        | none => loadT tb t x d L
        | _ => none)
      | false => grdO L g d (obind (loadO tb L t x) fun v => some ((d, v) :: L))
    | .extract (.tmp s) i => match g with
      | none => extO s i d L
      | _ => none
    | .alloc t => match g with
      | none => alO tb t d L
      | _ => none
    | .box _ x => match g with
      | none => boxO x d L
      | _ => none
    | .build t ps => grdO L g d (bldO tb t ps.toList d L)
    | .pick c a b => grdO L g d (obind (pureO tb L (.pick c a b)) fun v => some ((d, v) :: L))
    | .binOp p t x y t' => grdO L g d (obind (pureO tb L (.binOp p t x y t')) fun v => some ((d, v) :: L))
    | .unOp p t x => grdO L g d (obind (pureO tb L (.unOp p t x)) fun v => some ((d, v) :: L))
    | .convert s t x => grdO L g d (obind (pureO tb L (.convert s t x)) fun v => some ((d, v) :: L))
    | .fieldAddr t x f => grdO L g d (obind (faO tb L t x f) fun v => some ((d, v) :: L))
    | .call c => match c.callee with
      | .value (.tmp _) => none
      | .value (.const _) => none
      | .value (.global _) => none
      | _ => grdO L g d (obind (callO tb L c.callee c.args.toList c.argTypes.toList) fun v => some ((d, v) :: L))
    | .index .. => grdO L g d none
    | .indexAddr .. => grdO L g d none
    | .slice .. => grdO L g d none
    | .buildSlice .. => grdO L g d none
    | _ => none
  | ⟨none, .store t x y, _, none⟩ => stoO tb t x y L
  | _ => none
section
variable {P : Program} {tb : Tb} {cns : List Nat} {L L' : PL} {K : PS → Prop} {d : Nat}
theorem grd_pure {op : Op} {t : TypeId} {g : Option (Option Nat × Bool)} {v : Option V} (hv : ∀ r, v = some r → pc tb (ofL L) op ∧ pv tb (ofL L) op = r) (h : grdO L g d (obind v fun v => some ((d, v) :: L)) = some L') (k : K (ofL L')) : pureS tb ⟨some d, op, t, g⟩ (ofL L) K := by
  have run : ∀ {L' : PL}, obind v (fun v => some ((d, v) :: L)) = some L' → K (ofL L') → pc tb (ofL L) op ∧ K (upd (ofL L) d (pv tb (ofL L) op)) := by
    intro L' h k
    obtain ⟨r, h1, h⟩ := ob_some h
    cases h
    obtain ⟨h2, h3⟩ := hv r h1
    exact ⟨h2, by rw [h3]; exact k⟩
  unfold grdO at h
  split at h
  · exact run h k
  · rename_i q b
    obtain ⟨c, h1, h⟩ := ob_some h
    simp only [pureS, lk_ok h1]
    cases c with
    | bool e =>
      cases e <;> cases b <;> simp only at h <;> first
        | exact ⟨rfl, fun _ => run h k, fun e => by cases e⟩
        | (cases h; exact ⟨rfl, (fun e => by cases e), fun _ => k⟩)
    | tup cs => cases h; exact ⟨rfl, (fun e => by cases e), fun _ => k⟩
    | _ => cases h
  · cases h
theorem grd_gen {o : LO} {g : Option (Option Nat × Bool)} {v : Option PL} {X : Prop} (ho : o.g = g) (hv : ∀ L', v = some L' → K (ofL L') → X) (h : grdO L g d v = some L') (k : K (ofL L')) : grdS o d (ofL L) K X := by
  subst ho
  unfold grdO at h
  unfold grdS
  split at h
  · rename_i e; rw [e]; exact hv _ h k
  · rename_i q b e
    rw [e]
    obtain ⟨c, h1, h⟩ := ob_some h
    simp only [lk_ok h1]
    cases c with
    | bool e =>
      cases e <;> cases b <;> simp only at h <;> first
        | exact ⟨rfl, fun _ => hv _ h k, fun e => by cases e⟩
        | (cases h; exact ⟨rfl, (fun e => by cases e), fun _ => k⟩)
    | tup cs => cases h; exact ⟨rfl, (fun e => by cases e), fun _ => k⟩
    | _ => cases h
  · cases h
theorem asgO_ok {x : Operand} {o : LO} (h : asgO tb o.ty x d L = some L') (k : K (ofL L')) : asgS tb o x d (ofL L) K := by
  unfold asgO at h
  split at h
  · obtain ⟨dd, h1, h⟩ := ob_some h
    cases dd with
    | sl e es eb ez => cases h; simp only [asgS, h1]; exact k
    | _ => cases h
  · rename_i p
    obtain ⟨c, h1, h⟩ := ob_some h
    obtain ⟨h2, h⟩ := if_some h
    obtain ⟨L1, h3, h⟩ := ob_some h
    cases h
    have e := takeL_ok (x := .tmp p) h1 h3
    rw [ofL_cons, e] at k
    exact asg_val (lk_ok h1) h2 (by rw [← lk_ok h1]; simp only [takeS] at k; rw [lk_ok h1] at k ⊢; exact k)
  · rename_i v hn
    obtain ⟨c, h1, h⟩ := ob_some h
    obtain ⟨h2, h⟩ := if_some h
    cases h
    have e := frc_eq h1
    subst e
    unfold asgS
    split
    · rename_i he; injection he with he; exact absurd (by rw [he]) hn
    · rename_i he; cases he
    · exact ⟨h2, k⟩
  · cases h
theorem stepO_ok {o : LO} (h : stepO tb cns o L = some L') (k : K (ofL L')) : evO P tb cns o (ofL L) K := by
  obtain ⟨dst, op, t, g⟩ := o
  cases dst with
  | none =>
    unfold stepO at h
    split at h
    · rename_i he; cases he
    · rename_i t' x y ty he
      injection he with e1 e2 e3 e4
      subst e2 e4
      obtain ⟨dd, h1, h⟩ := ob_some h
      obtain ⟨a, h2, h⟩ := ob_some h
      cases a with
      | cref s off =>
        obtain ⟨b, h3, h⟩ := ob_some h
        cases b with
        | box cs =>
          obtain ⟨c, h4, h⟩ := ob_some h
          obtain ⟨h5, h⟩ := if_some h
          obtain ⟨L1, h6, h⟩ := ob_some h
          obtain ⟨b', h7, h⟩ := ob_some h
          cases h
          simp only [Bool.and_eq_true] at h5
          have e := frc_eq h7
          subst e
          simp only [evO, stoS, h1, adO_ok h2, lk_ok h3, bxOf, setBx, opO_ok h4]
          refine ⟨trivial, h5.1, Nat.eq_of_beq_eq_true h5.2.1, nb h5.2.2, ?_⟩
          rw [← takeL_ok h4 h6]; exact k
        | _ => cases h
      | _ => cases h
    · cases h
  | some d =>
    cases op with
    | assign x =>
      simp only [stepO] at h
      split at h
      · rename_i hc
        simp only [evO, hc, Bool.false_eq_true, if_false]
        exact ⟨trivial, asgO_ok (o := ⟨some d, .assign x, t, none⟩) h k⟩
      · cases h
    | move x =>
      simp only [stepO] at h
      split at h
      · rename_i hc
        cases g with
        | none =>
          simp only [evO, hc, if_true]
          exact ⟨trivial, asgO_ok (o := ⟨some d, .move x, t, none⟩) h k⟩
        | some g => cases h
      · rename_i hc
        simp only [evO, hc, Bool.false_eq_true, if_false]
        exact grd_pure (fun r hr => mvO_ok hr) h k
    | load s x =>
      simp only [stepO] at h
      split at h
      · rename_i hc
        cases g with
        | none =>
          simp only [evO, hc, if_true]
          refine ⟨trivial, ?_⟩
          obtain ⟨dd, h1, h⟩ := ob_some h
          obtain ⟨a, h2, h⟩ := ob_some h
          simp only [loadS, h1, adO_ok h2]
          cases a with
          | cref b off =>
            obtain ⟨c, h3, h⟩ := ob_some h
            cases c with
            | box cs =>
              obtain ⟨h4, h⟩ := if_some h
              obtain ⟨b', h5, h⟩ := ob_some h
              obtain ⟨v, h6, h⟩ := ob_some h
              cases h
              rw [frc_eq h5, frc_eq h6] at k
              simp only [lk_ok h3, bxOf, setBx]
              exact ⟨nb h4, k⟩
            | _ => cases h
          | adr cs off =>
            obtain ⟨h4, h⟩ := if_some h
            obtain ⟨v, h6, h⟩ := ob_some h
            cases h
            rw [frc_eq h6] at k
            exact ⟨nb h4, k⟩
          | _ => cases h
        | some g => cases h
      · rename_i hc
        simp only [evO, hc, Bool.false_eq_true, if_false]
        exact grd_pure (fun r hr => loadO_ok hr) h k
    | extract x i =>
      cases x with
      | tmp s =>
        cases g with
        | none =>
          simp only [stepO] at h
          obtain ⟨a, h1, h⟩ := ob_some h
          cases a with
          | tup cs =>
            obtain ⟨c, h2, h⟩ := ob_some h
            obtain ⟨h3, h⟩ := if_some h
            obtain ⟨v, h4, h⟩ := ob_some h
            cases h
            rw [frc_eq h4] at k
            simp only [evO, extS, lk_ok h1, h2]
            exact ⟨trivial, h3, k⟩
          | _ => cases h
        | some g => cases h
      | _ => cases h
    | alloc s =>
      cases g with
      | none =>
        obtain ⟨dd, h1, h⟩ := ob_some (show obind (tb s) _ = _ from h)
        obtain ⟨h2, h⟩ := if_some h
        obtain ⟨v, h4, h⟩ := ob_some h
        cases h
        rw [frc_eq h4] at k
        exact ev_al (nbL_ok h2) h1 k
      | some g => cases h
    | box ty x =>
      cases g with
      | none =>
        obtain ⟨c, h1, h⟩ := ob_some (show obind (opO L x) _ = _ from h)
        obtain ⟨h2, h⟩ := if_some h
        obtain ⟨L1, h3, h⟩ := ob_some h
        obtain ⟨h4, h⟩ := if_some h
        obtain ⟨v, h5, h⟩ := ob_some h
        cases h
        rw [frc_eq h5] at k
        have e := takeL_ok h1 h3
        have h4 := nbL_ok h4
        rw [e] at h4
        simp only [evO, boxS, opO_ok h1]
        exact ⟨trivial, h2, h4, by rw [← e]; exact k⟩
      | some g => cases h
    | build s ps =>
      simp only [stepO] at h
      simp only [evO]
      refine grd_gen rfl (fun L1 h k => ?_) h k
      obtain ⟨dd, h1, h⟩ := ob_some h
      cases dd with
      | st n z fs =>
        obtain ⟨q, h2, h⟩ := ob_some h
        obtain ⟨c, h3, h⟩ := ob_some h
        cases h
        rw [frc_eq h3] at k
        simp only [buildS, h1, fillO_ok (L' := q.1) (cs' := q.2) h2]
        exact k
      | _ => cases h
    | pick c a b => simp only [stepO] at h; exact grd_pure (op := .pick c a b) (fun r hr => pureO_ok hr) h k
    | binOp p t x y t' => simp only [stepO] at h; exact grd_pure (op := .binOp p t x y t') (fun r hr => pureO_ok hr) h k
    | unOp p t x => simp only [stepO] at h; exact grd_pure (op := .unOp p t x) (fun r hr => pureO_ok hr) h k
    | convert s t x => simp only [stepO] at h; exact grd_pure (op := .convert s t x) (fun r hr => pureO_ok hr) h k
    | fieldAddr t x f => simp only [stepO] at h; exact grd_pure (op := .fieldAddr t x f) (fun r hr => faO_ok hr) h k
    | index s x y => simp only [stepO] at h; exact grd_pure (op := .index s x y) (v := none) (fun r hr => by cases hr) h k
    | indexAddr s x y => simp only [stepO] at h; exact grd_pure (op := .indexAddr s x y) (v := none) (fun r hr => by cases hr) h k
    | slice s x lo hi m => simp only [stepO] at h; exact grd_pure (op := .slice s x lo hi m) (v := none) (fun r hr => by cases hr) h k
    | buildSlice s n ps => simp only [stepO] at h; simp only [evO]; exact grd_gen rfl (fun L1 h k => by cases h) h k
    | call c =>
      obtain ⟨cal, args, ts⟩ := c
      simp only [stepO] at h
      split at h
      · cases h
      · cases h
      · cases h
      rename_i hc1 hc2 hc3
      have hp : pureS tb ⟨some d, .call ⟨cal, args, ts⟩, t, g⟩ (ofL L) K := grd_pure (op := .call ⟨cal, args, ts⟩) (fun r hr => callO_ok hr) h k
      cases cal with
      | value x =>
        cases x with
        | func f =>
          show callS P ⟨some d, .call ⟨.value (.func f), args, ts⟩, t, g⟩ f args.toList (ofL L) K
          have hno : ∀ v, ¬ obind (callO tb L (.value (.func f)) args.toList ts.toList) (fun v => some ((d, v) :: L)) = some v := by
            intro v hv
            obtain ⟨r, hr, _⟩ := ob_some hv
            cases hr
          unfold callS
          unfold grdO at h
          cases g with
          | none => exact absurd h (hno _)
          | some g =>
            obtain ⟨q, b⟩ := g
            cases q with
            | none => cases h
            | some q =>
              obtain ⟨c, h1, h⟩ := ob_some (show obind (lk L q) _ = _ from h)
              simp only [lk_ok h1]
              cases c with
              | bool e =>
                cases e <;> cases b <;> simp only at h <;> first
                  | exact absurd h (hno _)
                  | (cases h; exact ⟨rfl, (fun e => by cases e), fun _ => k⟩)
              | tup cs => cases h; exact ⟨rfl, (fun e => by cases e), fun _ => k⟩
              | _ => cases h
        | tmp p => exact absurd rfl (hc1 p)
        | const v => exact absurd rfl (hc2 v)
        | global v => exact absurd rfl (hc3 v)
      | builtin b =>
        cases b with
        | append =>
          simp only [evO, callS']
          split
          · rename_i heq; cases heq
          · rename_i _ heq _ _
            injection heq with heq
            subst heq
            refine grd_gen rfl (fun L1 h k => ?_) h k
            obtain ⟨r, hr, _⟩ := ob_some h
            cases hr
          · exact hp
        | _ => exact hp
      | _ => exact hp
    | _ => cases h
end
def stepN (tb : Tb) (cns : List Nat) : Nat → List LO → PL → Option (List LO × PL)
  | 0, os, L => some (os, L)
  | _ + 1, [], _ => none
  | n + 1, o :: os, L => obind (stepO tb cns o L) fun L' => stepN tb cns n os L'
def basL (L : PL) (R : List Nat) (p : Nat) : Bool := match lk L p with
  | some c => bas R c
  | none => true
theorem basL_ok {L : PL} {R : List Nat} {p : Nat} (h : basL L R p = true) : bas R (ofL L p) = true := by
  unfold basL at h
  rw [lk_get]
  cases hl : lk L p with
  | none => rfl
  | some c => rw [hl] at h; exact h
def stepD (tb : Tb) (cns : List Nat) : Nat → List (List Nat × List Nat) → List LO → PL → Option (List (List Nat × List Nat) × List LO × PL)
  | 0, fps, os, L => some (fps, os, L)
  | n + 1, (R, _) :: fps, o :: os, L => ifB ((adP o.op).all (basL L R) && (adU cns o).all (basL L R)) (obind (stepO tb cns o L) fun L' => stepD tb cns n fps os L')
  | _ + 1, _, _, _ => none
def keepL (L : PL) : List Nat → Option PL
  | [] => some []
  | s :: ss => obind (lk L s) fun c => obind (keepL L ss) fun L' => some ((s, c) :: L')
def keepS (L : PL) (ss : List Nat) : Option PL := obind (keepL L ss) fun L' => ifB (okR L') (some L')
theorem keepL_ok {L : PL} : ∀ {ss : List Nat} {L' : PL}, keepL L ss = some L' → okK (ofL L) L'
  | [], _, h => by cases h; trivial
  | s :: ss, _, h => by
    rw [keepL] at h
    obtain ⟨c, h1, h⟩ := ob_some h
    obtain ⟨L1, h2, h⟩ := ob_some h
    cases h
    exact ⟨(lk_ok h1) ▸ kr, keepL_ok h2⟩
theorem keepS_ok {L L' : PL} {ss : List Nat} (h : keepS L ss = some L') : okK (ofL L) L' ∧ okR L' = true := by
  obtain ⟨L1, h1, h⟩ := ob_some h
  obtain ⟨h2, h⟩ := if_some h
  cases h
  exact ⟨keepL_ok h1, h2⟩
def iniL : Nat → List V → PL
  | _, [] => []
  | i, c :: cs => (i, c) :: iniL (i + 1) cs
theorem ini_at : ∀ (args : List V) (i s : Nat), okK (fun q => (args[q - i]?).getD (.tup [])) (iniL i args)
  | [], _, _ => trivial
  | c :: cs, i, s => by
    refine ⟨by simpa using kr, ?_⟩
    have h := ini_at cs (i + 1) s
    have key : ∀ (L : PL) (f g : PS), (∀ p ∈ L, f p.1 = g p.1) → okK f L → okK g L := by
      intro L f g
      induction L with
      | nil => intro _ _; trivial
      | cons p L ih =>
        obtain ⟨q, c⟩ := p
        intro he hk
        exact ⟨by rw [← he (q, c) (by simp)]; exact hk.1, ih (fun p hp => he p (by simp [hp])) hk.2⟩
    have hlow : ∀ (cs : List V) (j : Nat), ∀ p ∈ iniL j cs, j ≤ p.1 := by
      intro cs
      induction cs with
      | nil => intro j p hp; simp [iniL] at hp
      | cons c cs ih =>
        intro j p hp
        simp only [iniL, List.mem_cons] at hp
        rcases hp with rfl | hp
        · exact Nat.le_refl _
        · have := ih (j + 1) p hp; omega
    refine key _ _ _ (fun p hp => ?_) h
    have := hlow cs (i + 1) p hp
    rw [show p.1 - i = (p.1 - (i + 1)) + 1 by omega, List.getElem?_cons_succ]
section
variable {P : Program} {tb : Tb} {cns : List Nat} {L L' : PL} {K : PS → Prop} {ops os : List LO} {fps fps' : List (List Nat × List Nat)}
theorem stepN_ok : ∀ {n : Nat} {ops : List LO} {L : PL}, stepN tb cns n ops L = some (os, L') → evS P tb cns os (ofL L') K → evS P tb cns ops (ofL L) K
  | 0, _, _, h, k => by cases h; exact k
  | _ + 1, [], _, h, _ => by cases h
  | n + 1, o :: ops, L, h, k => by
    rw [stepN] at h
    obtain ⟨L1, h1, h⟩ := ob_some h
    exact stepO_ok (K := fun σ' => evS P tb cns ops σ' K) h1 (stepN_ok h k)
theorem sp (n : Nat) (h : stepN tb cns n ops L = some (os, L')) (k : evS P tb cns os (ofL L') K) : evS P tb cns ops (ofL L) K := stepN_ok h k
theorem stepD_ok : ∀ {n : Nat} {fps : List (List Nat × List Nat)} {ops : List LO} {L : PL}, stepD tb cns n fps ops L = some (fps', os, L') → evD P tb cns fps' os (ofL L') K → evD P tb cns fps ops (ofL L) K
  | 0, _, _, _, h, k => by cases h; exact k
  | n + 1, [], _, _, h, _ => by cases h
  | n + 1, _ :: _, [], _, h, _ => by cases h
  | n + 1, (R, W) :: fps, o :: ops, L, h, k => by
    rw [stepD] at h
    obtain ⟨h1, h⟩ := if_some h
    obtain ⟨L1, h2, h⟩ := ob_some h
    simp only [Bool.and_eq_true, List.all_eq_true] at h1
    refine evd (List.all_eq_true.2 fun p hp => basL_ok (h1.1 p hp)) (List.all_eq_true.2 fun p hp => basL_ok (h1.2 p hp)) ?_
    exact stepO_ok (K := fun σ' => evD P tb cns fps ops σ' K) h2 (stepD_ok h k)
theorem sd (n : Nat) (h : stepD tb cns n fps ops L = some (fps', os, L')) (k : evD P tb cns fps' os (ofL L') K) : evD P tb cns fps ops (ofL L) K := stepD_ok h k
theorem lit_eq {q : Nat} {c b : Bool} (e : c = b) (h : lk L q = some (.bool c)) : ofL ((q, .bool b) :: L) = ofL L := by
  subst e
  rw [ofL_cons, ← lk_ok h, upd_self]
theorem qg (q : Nat) {c b : Bool} (e : c = b) (h : lk L q = some (.bool c)) (k : evS P tb cns ops (ofL ((q, .bool b) :: L)) K) : evS P tb cns ops (ofL L) K := by rw [lit_eq e h] at k; exact k
theorem qgd (q : Nat) {c b : Bool} (e : c = b) (h : lk L q = some (.bool c)) (k : evD P tb cns fps ops (ofL ((q, .bool b) :: L)) K) : evD P tb cns fps ops (ofL L) K := by rw [lit_eq e h] at k; exact k
end
section
variable {P : Program} {nt : Nat} {bx : List Nat} {l : LC} {Q : Exit → PS → Prop} {tb : Tb} {cns : List Nat} {L L' : PL}
theorem qk (ss : List Nat) (h : keepS L ss = some L') (k : LS P nt bx l (ofL L') Q) : LS P nt bx l (ofL L) Q := ls_keep L' (keepS_ok h).1 (keepS_ok h).2 k
theorem qe (ss : List Nat) (h : keepS L ss = some L') (k : LS P nt bx l (ofL L') Q) : evS P tb cns [] (ofL L) (fun σ' => LS P nt bx l σ' Q) := qk ss h k
theorem qi (args : List V) (hr : okR (iniL 0 args) = true) (k : LS P nt bx l (ofL (iniL 0 args)) Q) : LS P nt bx l (initS args) Q := ls_keep _ (ini_at args 0 0) hr k
end
section
variable {P : Program} {tb : Tb} {cns : List Nat} {L : PL} {K : PS → Prop} {d s t : Nat} {x y z : Operand}
def argO (L : PL) (x : Operand) : Option V := obind (opO L x) fun c => ifB c.isArg (some c)
theorem argO_ok {c : V} (h : argO L x = some c) : opV (ofL L) x = c ∧ c.isArg = true := by
  obtain ⟨c', h1, h⟩ := ob_some h
  obtain ⟨h2, h⟩ := if_some h
  cases h
  exact ⟨opO_ok h1, h2⟩
theorem qa {c a : V} {xs : List Operand} {as : List V} (h1 : argO L x = some c) (h2 : er c = a) (h3 : erA (ofL L) xs as) : erA (ofL L) (x :: xs) (a :: as) := era (by rw [(argO_ok h1).1]; exact (argO_ok h1).2) (by rw [(argO_ok h1).1]; exact h2) h3
def isPl : V → Bool
  | .int .. | .bool .. | .str .. | .fn .. => true
  | _ => false
theorem qs {a : V} {xs : List Operand} {as : List V} (h1 : obind (argO L x) (fun c => ifB (isPl c) (some c)) = some a) (h3 : erA (ofL L) xs as) : erA (ofL L) (x :: xs) (a :: as) := by
  obtain ⟨c, h2, h⟩ := ob_some h1
  obtain ⟨h4, h⟩ := if_some h
  cases h
  exact qa h2 (by cases a <;> first | rfl | cases h4) h3
theorem qC {f : FuncId} {args : Array Operand} {ts : Array TypeId} {as : List V} {r : V} (he : erA (ofL L) args.toList as) (hs : SoundAt P f as r) (k : K (ofL ((d, r) :: L))) : evO P tb cns ⟨some d, .call { callee := .value (.func f), args := args, argTypes := ts }, t, none⟩ (ofL L) K := ev_call he hs k
theorem qCt {f : FuncId} {p : Nat} {args : Array Operand} {ts : Array TypeId} {as : List V} {r : V} (hp : lk L p = some (.fn f)) (he : erA (ofL L) args.toList as) (hs : SoundAt P f as r) (k : K (ofL ((d, r) :: L))) : evO P tb cns ⟨some d, .call { callee := .value (.tmp p), args := args, argTypes := ts }, t, none⟩ (ofL L) K := by
  obtain ⟨h1, h2⟩ := erA_ok he
  subst h2
  show (match opV (ofL L) (.tmp p) with
    | .fn f => callS P _ f args.toList (ofL L) K
    | _ => False)
  rw [show opV (ofL L) (.tmp p) = .fn f from lk_ok hp]
  exact ⟨h1, r, hs, k⟩
theorem qC0 {f : FuncId} {args : Array Operand} {ts : Array TypeId} {as : List V} {r : V} (he : erA (ofL L) args.toList as) (hs : SoundAt P f as r) (k : K (ofL L)) : evO P tb cns ⟨none, .call { callee := .value (.func f), args := args, argTypes := ts }, t, none⟩ (ofL L) K := ev_call he hs k
def iaO (tb : Tb) (L : PL) (s : TypeId) (x y : Operand) : Option (Nat × List V × Int × Nat) := obind (opO L x) fun a => obind (slOf a) fun p => obind (opO L y) fun b => match b with
  | .int _ i => obind (tb s) fun dd => match dd with
    | .sl _ es _ _ => some (p.1, p.2, i, es)
    | _ => none
  | _ => none
theorem qI {α : Type} {f : α → List V} {l : List α} {i : Int} {e : α} {n : Nat} (h : iaO tb L s x y = some (l.length, l.flatMap f, i, n)) (hf : ∀ x, (f x).length = n) (hi : geti l i = some e) (k : K (ofL ((d, .adr (f e ++ (l.drop (i.toNat + 1)).flatMap f) 0) :: L))) : evO P tb cns ⟨some d, .indexAddr s x y, t, none⟩ (ofL L) K := by
  obtain ⟨a, h1, h⟩ := ob_some h
  obtain ⟨p, h2, h⟩ := ob_some h
  obtain ⟨b, h3, h⟩ := ob_some h
  obtain ⟨g1, g2, g3⟩ := geti_some hi
  cases b with
  | int kk j =>
    obtain ⟨dd, h4, h⟩ := ob_some h
    cases dd with
    | sl e' es eb ez =>
      simp only [Option.some.injEq, Prod.mk.injEq] at h
      obtain ⟨e1, e2, e3, e4⟩ := h
      subst e3 e4
      refine ev_ia (n := l.length) (cs := l.flatMap f) (by rw [opO_ok h1, h2]; cases p; cases e1; cases e2; rfl) (opO_ok h3) h4 ⟨g1, g2⟩ ?_
      have := (fl_get hf g3 0).resolve_right (by omega)
      rw [Nat.add_zero, List.drop_zero] at this
      rw [this]; exact k
    | _ => cases h
  | _ => cases h
def sixO (tb : Tb) (L : PL) (s : TypeId) (x y : Operand) : Option (List UInt8 × Int) := obind (opO L x) fun a => match a with
  | .str u => obind (opO L y) fun b => match b with
    | .int _ i => ifB (isStrT (tb s)) (some (u, i))
    | _ => none
  | _ => none
theorem qX {u : List UInt8} {i : Int} {b : UInt8} (h : sixO tb L s x y = some (u, i)) (hi : geti u i = some b) (k : K (ofL ((d, .int .u8 b.toNat) :: L))) : evO P tb cns ⟨some d, .index s x y, t, none⟩ (ofL L) K := by
  obtain ⟨a, h1, h⟩ := ob_some h
  cases a with
  | str u' =>
    obtain ⟨b', h3, h⟩ := ob_some h
    cases b' with
    | int kk j =>
      obtain ⟨h4, h⟩ := if_some h
      cases h
      exact ev_six (opO_ok h1) (opO_ok h3) (isStrT_ok h4) hi k
    | _ => cases h
  | _ => cases h
def bdO (dflt : Int) (L : PL) : Option Operand → Option Int
  | none => some dflt
  | some x => obind (opO L x) ixOf
theorem bdO_ok {dflt i : Int} {lo : Option Operand} (h : bdO dflt L lo = some i) : bdOf dflt (lo.map (opV (ofL L))) = some i := by
  cases lo with
  | none => exact h
  | some x =>
    obtain ⟨c, h1, h⟩ := ob_some (show obind (opO L x) _ = _ from h)
    simp only [Option.map_some, bdOf, opO_ok h1]; exact h
def slsO (tb : Tb) (L : PL) (s : TypeId) (x : Operand) (lo hi : Option Operand) : Option (List UInt8 × Int × Int) := obind (opO L x) fun a => match a with
  | .str u => ifB (isStrT (tb s)) (obind (bdO 0 L lo) fun l => obind (bdO u.length L hi) fun h => some (u, l, h))
  | _ => none
theorem qSs {u : List UInt8} {lo hi : Option Operand} {l h : Int} (hh : slsO tb L s x lo hi = some (u, l, h)) (hb : 0 ≤ l ∧ l ≤ h ∧ h ≤ u.length) (k : K (ofL ((d, .str (subl u l h)) :: L))) : evO P tb cns ⟨some d, .slice s x lo hi none, t, none⟩ (ofL L) K := by
  obtain ⟨a, h1, hh⟩ := ob_some hh
  cases a with
  | str u' =>
    obtain ⟨h4, hh⟩ := if_some hh
    obtain ⟨l', h5, hh⟩ := ob_some hh
    obtain ⟨r', h6, hh⟩ := ob_some hh
    cases hh
    exact ev_sls (opO_ok h1) (isStrT_ok h4) (bdO_ok h5) (bdO_ok h6) hb k
  | _ => cases hh
def sleO (tb : Tb) (L : PL) (s : TypeId) (x : Operand) (lo hi : Option Operand) : Option (Nat × List V × Nat × Int × Int) := obind (opO L x) fun a => obind (slOf a) fun p => obind (tb s) fun dd => match dd with
  | .sl _ es _ _ => obind (bdO 0 L lo) fun l => obind (bdO p.1 L hi) fun h => some (p.1, p.2, es, l, h)
  | _ => none
theorem qSl {α : Type} {f : α → List V} {lst : List α} {n : Nat} {lo hi : Option Operand} {l h : Int} (hh : sleO tb L s x lo hi = some (lst.length, lst.flatMap f, n, l, h)) (hf : ∀ x, (f x).length = n) (hb : 0 ≤ l ∧ l ≤ h ∧ h ≤ lst.length) (k : K (ofL ((d, .dat (subl lst l h).length ((subl lst l h).flatMap f)) :: L))) : evO P tb cns ⟨some d, .slice s x lo hi none, t, none⟩ (ofL L) K := by
  obtain ⟨a, h1, hh⟩ := ob_some hh
  obtain ⟨p, h2, hh⟩ := ob_some hh
  obtain ⟨dd, h3, hh⟩ := ob_some hh
  cases dd with
  | sl e es eb ez =>
    obtain ⟨l', h5, hh⟩ := ob_some hh
    obtain ⟨r', h6, hh⟩ := ob_some hh
    simp only [Option.some.injEq, Prod.mk.injEq] at hh
    obtain ⟨e1, e2, e3, e4, e5⟩ := hh
    subst e3 e4 e5
    rw [e1] at h6
    exact ev_sle (lst := lst) (f := f) (by rw [opO_ok h1, h2]; cases p; cases e1; cases e2; rfl) h3 hf (bdO_ok h5) (bdO_ok h6) hb k
  | _ => cases hh
def binO (L : PL) (x y : Operand) : Option (V × V) := obind (opO L x) fun a => obind (opO L y) fun b => some (a, b)
theorem qB {op : BinOp} {ta tc : TypeId} {c1 c2 v : V} (h : binO L x y = some (c1, c2)) (hc : binC (tb ta) op c1 c2) (hv : frc (binV op c1 c2) = some v) (k : K (ofL ((d, v) :: L))) : evO P tb cns ⟨some d, .binOp op ta x y tc, t, none⟩ (ofL L) K := by
  obtain ⟨a, h1, h⟩ := ob_some h
  obtain ⟨b, h2, h⟩ := ob_some h
  cases h
  rw [frc_eq hv] at k
  exact ev_bin (opO_ok h1) (opO_ok h2) hc k
theorem qCs {a b e : TypeId} {es eb : Nat} {ez : List V} {w : List UInt8} {z' : Int} {l : List Int} (hx : obind (opO L x) slOf = some (l.length, l.flatMap cu8)) (h1 : tb a = some (.sl e es eb ez)) (h2 : tb b = some (.sc (.str w))) (h3 : tb e = some (.sc (.int .u8 z'))) (k : K (ofL ((d, .str (bytesOf l)) :: L))) : evO P tb cns ⟨some d, .convert a b x, t, none⟩ (ofL L) K := by
  obtain ⟨c, g1, g2⟩ := ob_some hx
  exact ev_cvs (by rw [opO_ok g1]; exact g2) h1 h2 h3 k
def appO (tb : Tb) (L : PL) (s : TypeId) (p q : Nat) : Option (Nat × List V × Nat × Nat × List V × V × PL) := obind (lk L p) fun a => match a with
  | .own e n cs => obind (takeL L (.tmp p) (.own e n cs)) fun L1 => obind (lk L1 q) fun c => obind (slOf c) fun r => obind (takeL L1 (.tmp q) c) fun L2 => obind (tb s) fun dd => match dd with
    | .sl e' es _ _ => ifB (Nat.beq e e' && c.isVal) (some (n, cs, es, r.1, r.2, c, L2))
    | _ => none
  | _ => none
theorem qA {α : Type} (f : α → List V) (l m : List α) {es p q : Nat} {e : TypeId} {ds : List V} {c : V} {L2 : PL} (h : appO tb L s p q = some (l.length, l.flatMap f, es, m.length, ds, c, L2)) (he : lk L p = some (.own e l.length (l.flatMap f))) (hd : ds.length = m.length * es) (ha : appY c = m.flatMap f) (hl : l.length + m.length ≤ lim)
    (k : K (ofL ((d, .own e (l ++ m).length ((l ++ m).flatMap f)) :: L2))) : evO P tb cns ⟨some d, .call { callee := .builtin .append, args := #[.tmp p, .tmp q], argTypes := #[s, s] }, t, none⟩ (ofL L) K := by
  obtain ⟨a, h1, h⟩ := ob_some h
  rw [he] at h1
  cases h1
  obtain ⟨L1, h2, h⟩ := ob_some h
  obtain ⟨c', h3, h⟩ := ob_some h
  obtain ⟨r, h4, h⟩ := ob_some h
  obtain ⟨L3, h5, h⟩ := ob_some h
  obtain ⟨dd, h6, h⟩ := ob_some h
  cases dd with
  | sl e' es' eb ez =>
    dsimp only at h
    obtain ⟨h7, h⟩ := if_some h
    simp only [Bool.and_eq_true] at h7
    have e1 := Nat.eq_of_beq_eq_true h7.1
    have h := Option.some.inj h
    simp only [Prod.mk.injEq] at h
    obtain ⟨_, _, e2, e3, e4, e5, e6⟩ := h
    subst e1 e2 e5 e6
    have t1 := takeL_ok (x := .tmp p) he h2
    have t2 := takeL_ok (x := .tmp q) h3 h5
    simp only [takeS, lk_ok he] at t1
    have t1' : ofL L1 = upd (ofL L) p (.dat l.length (l.flatMap f)) := t1
    refine ev_app (f := f) (l := l) (m := m) (c2 := c') (ds := ds) (lk_ok he) (by rw [← t1']; exact lk_ok h3) (by rw [h4]; cases r; cases e3; cases e4; rfl) hd h6 ha hl h7.2 ?_
    rw [ofL_cons, t2] at k
    simp only [takeS, lk_ok h3, t1'] at k
    exact k
  | _ => cases h
theorem qAd {α : Type} (f g h' : α → List V) (l m : List α) {es p q : Nat} {e : TypeId} {ds : List V} {c : V} {L2 : PL} (h : appO tb L s p q = some (l.length, l.flatMap f, es, m.length, ds, c, L2)) (he : lk L p = some (.own e l.length (l.flatMap f))) (hd : ds.length = m.length * es) (ha : appY c = m.flatMap h') (hl : l.length + m.length ≤ lim) (hf : ∀ x, (f x).map dg1 = g x) (hh : ∀ x, (h' x).map dg1 = g x) (hfc : ∀ x, (f x).all V.isCell = true) (hhc : ∀ x, (h' x).all V.isCell = true)
    (k : K (ofL ((d, .own e (l ++ m).length ((l ++ m).flatMap g)) :: L2))) : evO P tb cns ⟨some d, .call { callee := .builtin .append, args := #[.tmp p, .tmp q], argTypes := #[s, s] }, t, none⟩ (ofL L) K := by
  obtain ⟨a, h1, h⟩ := ob_some h
  rw [he] at h1
  cases h1
  obtain ⟨L1, h2, h⟩ := ob_some h
  obtain ⟨c', h3, h⟩ := ob_some h
  obtain ⟨r, h4, h⟩ := ob_some h
  obtain ⟨L3, h5, h⟩ := ob_some h
  obtain ⟨dd, h6, h⟩ := ob_some h
  cases dd with
  | sl e' es' eb ez =>
    dsimp only at h
    obtain ⟨h7, h⟩ := if_some h
    simp only [Bool.and_eq_true] at h7
    have e1 := Nat.eq_of_beq_eq_true h7.1
    have h := Option.some.inj h
    simp only [Prod.mk.injEq] at h
    obtain ⟨_, _, e2, e3, e4, e5, e6⟩ := h
    subst e1 e2 e5 e6
    have t1 := takeL_ok (x := .tmp p) he h2
    have t2 := takeL_ok (x := .tmp q) h3 h5
    simp only [takeS, lk_ok he] at t1
    have t1' : ofL L1 = upd (ofL L) p (.dat l.length (l.flatMap f)) := t1
    refine ev_appd (f := f) (g := g) (h := h') (l := l) (m := m) (c2 := c') (ds := ds) (lk_ok he) (by rw [← t1']; exact lk_ok h3) (by rw [h4]; cases r; cases e3; cases e4; rfl) hd h6 ha hl h7.2 hf hh hfc hhc ?_
    rw [ofL_cons, t2] at k
    simp only [takeS, lk_ok h3, t1'] at k
    exact k
  | _ => cases h
def bsO (tb : Tb) (L : PL) (s : TypeId) (n : Nat) (ps : List (Nat × Operand)) : Option (TypeId × Nat × PL × List V) := obind (tb s) fun dd => match dd with
  | .sl e es _ ez => ifB (Nat.ble (n * es) 16777216) (obind (fillO (fun i => some (i * es, es)) ps L (zrow ez es n)) fun q => obind (frcC q.2) fun cs => some (e, es, q.1, cs))
  | _ => none
theorem qBs {α : Type} (f : α → List V) (l : List α) {e : TypeId} {es n : Nat} {ps : Array (Nat × Operand)} {L2 : PL} {cs : List V} (h : bsO tb L s n ps.toList = some (e, es, L2, cs)) (hn : l.length = n) (hc : cs = l.flatMap f) (hf : ∀ x, (f x).length = es) (k : K (ofL ((d, .own e l.length (l.flatMap f)) :: L2))) : evO P tb cns ⟨some d, .buildSlice s n ps, t, none⟩ (ofL L) K := by
  obtain ⟨dd, h1, h⟩ := ob_some h
  cases dd with
  | sl e' es' eb ez =>
    obtain ⟨h2, h⟩ := if_some h
    obtain ⟨q, h3, h⟩ := ob_some h
    obtain ⟨cs', h4, h⟩ := ob_some h
    cases h
    have e1 := frcC_eq h4
    subst hc
    simp only [evO, grdS, bslS, h1, fillO_ok (L' := q.1) (cs' := q.2) h3]
    rw [← e1]
    refine ⟨nb h2, ?_, ?_⟩
    · rw [flat_len hf, hn]
    · rw [hn] at k; exact k
  | _ => cases h
def mkO (tb : Tb) (L : PL) (s : TypeId) (x y : Operand) : Option (Int × Int × TypeId × Nat × List V) := obind (opO L x) fun a => obind (opO L y) fun b => match a, b with
  | .int _ n, .int _ m => obind (tb s) fun dd => match dd with
    | .sl e es _ ez => some (n, m, e, es, ez)
    | _ => none
  | _, _ => none
theorem mkO_ok {n m : Int} {e : TypeId} {es : Nat} {ez : List V} (h : mkO tb L s x y = some (n, m, e, es, ez)) : ∃ k0 k1 eb, opV (ofL L) x = .int k0 n ∧ opV (ofL L) y = .int k1 m ∧ tb s = some (.sl e es eb ez) := by
  obtain ⟨a, h1, h⟩ := ob_some h
  obtain ⟨b, h2, h⟩ := ob_some h
  cases a <;> first | (cases h; done) | skip
  cases b <;> first | (cases h; done) | skip
  obtain ⟨dd, h3, h⟩ := ob_some h
  cases dd <;> first | (cases h; done) | skip
  cases h
  exact ⟨_, _, _, opO_ok h1, opO_ok h2, h3⟩
theorem qM {α : Type} (f : α → List V) (z : α) {e : TypeId} {es : Nat} {ez : List V} {n : Int} (hc : cns.contains d = false) (h : mkO tb L s x y = some (n, n, e, es, ez)) (hz : f z = ez) (hez : ez.length = es) (hn : 0 ≤ n ∧ n.toNat ≤ lim) (k : K (ofL ((d, .own e (List.replicate n.toNat z).length ((List.replicate n.toNat z).flatMap f)) :: L))) : evO P tb cns ⟨some d, .makeSlice s x y, t, none⟩ (ofL L) K := by
  obtain ⟨k0, k1, eb, h1, h2, h3⟩ := mkO_ok h
  exact ev_mk hc h1 h2 h3 hz hez hn k
theorem qMu {α : Type} (f : α → List V) (z : α) {e : TypeId} {es : Nat} {ez : List V} {n : Int} (hc : cns.contains d = true) (h : mkO tb L s x y = some (n, n, e, es, ez)) (hz : f z = ez) (hez : ez.length = es) (hn : 0 ≤ n ∧ n.toNat ≤ lim) (hb : nbL L d = true) (k : K (ofL ((d, .uni e (List.replicate n.toNat z).length ((List.replicate n.toNat z).flatMap f)) :: L))) : evO P tb cns ⟨some d, .makeSlice s x y, t, none⟩ (ofL L) K := by
  obtain ⟨k0, k1, eb, h1, h2, h3⟩ := mkO_ok h
  exact ev_mku hc h1 h2 h3 hz hez hn (nbL_ok hb) k
def killL (D : List Nat) (L : PL) : PL := L.map fun p => (p.1, if D.contains p.1 = true then .undef else match refOf p.2 with
  | some b => if D.contains b = true then .undef else p.2
  | none => p.2)
theorem killL_ok (D : List Nat) : ∀ L : PL, ofL (killL D L) = kill D (ofL L)
  | [] => by funext s; simp [killL, ofL, kill, refOf]
  | (q, c) :: L => by
    have ih := killL_ok D L
    funext s
    show ofL ((q, _) :: killL D L) s = _
    rw [ofL_cons]
    by_cases e : s = q
    · subst e
      rw [upd_same]
      unfold kill
      rw [ofL_cons, upd_same]
      rfl
    · rw [upd_ne _ _ e, ih]
      unfold kill
      rw [ofL_cons, upd_ne _ _ e]
def frL : PL → Option PL
  | [] => some []
  | (s, .undef) :: L => obind (frL L) fun L' => some ((s, .undef) :: L')
  | (s, c) :: L => obind (frc c) fun c => obind (frL L) fun L' => some ((s, c) :: L')
theorem frL_eq : ∀ {L L' : PL}, frL L = some L' → L' = L
  | [], _, h => by cases h; rfl
  | (s, c) :: L, L', h => by
    unfold frL at h
    split at h
    · rename_i he; cases he
    · rename_i he; cases he
      obtain ⟨L1, h1, h⟩ := ob_some h
      cases h; rw [frL_eq h1]
    · rename_i he; cases he
      obtain ⟨c1, h0, h⟩ := ob_some h
      obtain ⟨L1, h1, h⟩ := ob_some h
      cases h; rw [frL_eq h1, frc_eq h0]
theorem qTu {e : TypeId} {n : Nat} {cs : List V} {L1 : PL} (hc : cns.contains d = true) (h : lk L s = some (.uni e n cs)) (hk : frL (killL [s] L) = some L1) (k : K (ofL ((d, .own e n cs) :: (s, .dat n cs) :: L1))) : evO P tb cns ⟨some d, .move (.tmp s), t, none⟩ (ofL L) K := by
  rw [frL_eq hk] at k
  refine ev_mvtu hc (lk_ok h) ?_
  rw [← killL_ok]; exact k
theorem qAu {e : TypeId} {n : Nat} {cs : List V} {L1 : PL} (hc : cns.contains d = true) (h : lk L s = some (.uni e n cs)) (hk : frL (killL [s] L) = some L1) (hn : nbL L1 d = true) (k : K (ofL ((d, .uni e n cs) :: L1))) : evO P tb cns ⟨some d, .assign (.tmp s), t, none⟩ (ofL L) K := by
  have e1 := frL_eq hk
  subst e1
  refine ev_asu hc (lk_ok h) (by rw [← killL_ok]; exact nbL_ok hn) ?_
  rw [← killL_ok]; exact k
def iuO (tb : Tb) (L : PL) (s : TypeId) (x y : Operand) : Option (Nat × Nat × Int × Nat) := obind (opO L x) fun a => match a with
  | .same b => obind (lk L b) fun u => match u with
    | .uni _ n _ => obind (opO L y) fun c => match c with
      | .int _ i => obind (tb s) fun dd => match dd with
        | .sl _ es _ _ => some (b, n, i, es)
        | _ => none
      | _ => none
    | _ => none
  | _ => none
theorem qIu {b n es : Nat} {i : Int} (h : iuO tb L s x y = some (b, n, i, es)) (hi : 0 ≤ i ∧ i < n) (k : K (ofL ((d, .cref b (i.toNat * es)) :: L))) : evO P tb cns ⟨some d, .indexAddr s x y, t, none⟩ (ofL L) K := by
  obtain ⟨a, h1, h⟩ := ob_some h
  cases a <;> first | (cases h; done) | skip
  obtain ⟨u, h2, h⟩ := ob_some h
  cases u <;> first | (cases h; done) | skip
  obtain ⟨c, h3, h⟩ := ob_some h
  cases c <;> first | (cases h; done) | skip
  obtain ⟨dd, h4, h⟩ := ob_some h
  cases dd <;> first | (cases h; done) | skip
  cases h
  exact ev_iau (opO_ok h1) (lk_ok h2) (opO_ok h3) h4 hi k
theorem qLu {α : Type} {f : α → List V} {n b m : Nat} (off : Nat) {l : List α} {i : Int} {e : α} {et : TypeId} {dd : TyD} {v : V} (hc : cns.contains d = false) (hx : adO L x = some (.cref b (i.toNat * n + off))) (hb : lk L b = some (.uni et m (l.flatMap f))) (hf : ∀ x, (f x).length = n) (hi : geti l i = some e) (ht : tb s = some dd) (ho : Nat.ble (off + dd.size) n = true) (hg : frc (getCells dd (f e) off) = some v) (k : K (ofL ((d, v) :: L))) : evO P tb cns ⟨some d, .load s x, t, none⟩ (ofL L) K := by
  rw [frc_eq hg] at k
  exact ev_ldU hc (adO_ok hx) (lk_ok hb) hf hi ht (nb ho) rfl k
theorem qSu {ty : TypeId} {α : Type} {f : α → List V} {n b : Nat} {l : List α} {i : Int} (e : α) {et : TypeId} {dd : TyD} {c1 : V} {L1 : PL} (hx : adO L x = some (.cref b (i.toNat * n))) (hb : lk L b = some (.uni et l.length (l.flatMap f))) (hf : ∀ x, (f x).length = n) (hi : 0 ≤ i ∧ i < l.length) (hy : opO L y = some c1) (ht : tb t = some dd) (ha : c1.isArg = true) (hn : n = dd.size) (hc : cellsV c1 = f e) (hL : takeL L y c1 = some L1)
    (k : K (ofL ((b, .uni et (seti l i e).length ((seti l i e).flatMap f)) :: L1))) : evO P tb cns ⟨none, .store t x y, ty, none⟩ (ofL L) K := by
  refine ev_stu (adO_ok hx) (lk_ok hb) hf hi (opO_ok hy) ht ha hn hc ?_
  rw [← takeL_ok hy hL]; exact k
theorem qr (q : Nat) {c b : Bool} {ops : List LO} (e : c = b) (h : lk L q = some (.bool b)) (k : evS P tb cns ops (ofL ((q, .bool c) :: L)) K) : evS P tb cns ops (ofL L) K := by rw [lit_eq e.symm h] at k; exact k
theorem qrd (q : Nat) {c b : Bool} {fps : List (List Nat × List Nat)} {ops : List LO} (e : c = b) (h : lk L q = some (.bool b)) (k : evD P tb cns fps ops (ofL ((q, .bool c) :: L)) K) : evD P tb cns fps ops (ofL L) K := by rw [lit_eq e.symm h] at k; exact k
end
section
variable {P : Program} {nt : Nat} {bx : List Nat} {Q : Exit → PS → Prop} {L : PL}
theorem qT {s : Nat} {x y : LC} {b : Bool} (hb : lk L s = some (.bool b)) (e : b = true) (h : LS P nt bx x (ofL L) Q) : LS P nt bx (.cond (.tmp s) x y) (ofL L) Q := ls_cT (lk_ok hb) e h
theorem qF {s : Nat} {x y : LC} {b : Bool} (hb : lk L s = some (.bool b)) (e : b = false) (h : LS P nt bx y (ofL L) Q) : LS P nt bx (.cond (.tmp s) x y) (ofL L) Q := ls_cF (lk_ok hb) e h
end
section
variable {P : Program} {tb : Tb} {cns : List Nat} {L : PL} {K : PS → Prop} {d s t : Nat} {x : Operand}
theorem qFd {f : Nat} (off : Nat) {v : V} (hf : fldT P s f = some off) (h : obind (opO L x) (fun a => match a with
  | .agg cs => obind (cs[off]?) fun c => frc (dg1 c)
  | _ => none) = some v) (k : K (ofL ((d, v) :: L))) : evO P tb cns ⟨some d, .field s x f, t, none⟩ (ofL L) K := by
  obtain ⟨a, h1, h⟩ := ob_some h
  cases a with
  | agg cs =>
    obtain ⟨c, h2, h⟩ := ob_some h
    rw [frc_eq h] at k
    simp only [evO, grdS, fldS, hf, opO_ok h1, h2]
    exact k
  | _ => cases h
end
def stepA (tb : Tb) (cns : List Nat) : List LO → PL → Option PL
  | [], L => some L
  | o :: os, L => obind (stepO tb cns o L) fun L' => stepA tb cns os L'
def runR (tb : Tb) : Nat → LC → PL → Option (LC × PL)
  | 0, l, L => some (l, L)
  | n + 1, .seq (.rgn cns ops) y, L => obind (stepA tb cns ops L) fun L' => runR tb n y L'
  | _ + 1, _, _ => none
section
variable {P : Program} {nt : Nat} {bx : List Nat} {Q : Exit → PS → Prop} {tb : Tb}
theorem stepA_ok {cns : List Nat} {K : PS → Prop} : ∀ {ops : List LO} {L L' : PL}, stepA tb cns ops L = some L' → K (ofL L') → evS P tb cns ops (ofL L) K
  | [], _, _, h, k => by cases h; exact k
  | o :: ops, L, _, h, k => by
    rw [stepA] at h
    obtain ⟨L1, h1, h⟩ := ob_some h
    exact stepO_ok (K := fun σ' => evS P tb cns ops σ' K) h1 (stepA_ok h k)
theorem runR_ok (htb : TbOk P tb) : ∀ {n : Nat} {l l' : LC} {L L' : PL}, runR tb n l L = some (l', L') → LS P nt bx l' (ofL L') Q → LS P nt bx l (ofL L) Q
  | 0, _, _, _, _, h, k => by cases h; exact k
  | n + 1, l, l', L, L', h, k => by
    cases l with
    | seq a y =>
      cases a with
      | rgn cns ops =>
        obtain ⟨L1, h1, h⟩ := ob_some (show obind (stepA tb cns ops L) (fun L' => runR tb n y L') = _ from h)
        exact ls_rs htb (stepA_ok h1 (runR_ok htb h k))
      | _ => exact nomatch (show none = some _ from h)
    | _ => exact nomatch (show none = some _ from h)
abbrev Jn (K : PS → Prop) (L : PL) : Prop := ∀ σ : PS, okK σ L → K σ
theorem lh {l : LC} {σ : PS} {L : PL} (hk : okK σ L) (h2 : okR L = true) (h : LS P nt bx l (ofL L) Q) : LS P nt bx l σ Q := ls_keep L hk h2 h
end
theorem rL {α : Type} {p : α → Prop} {e r : α} (h : some e = some r) (k : p e) : p r := by cases h; exact k
theorem rM {α β : Type} {g : α → Option β} {e o : α} {e' r : β} (h : some e = some o) (hr : g o = some r) (hg : g e = some e') : some e' = some r := by cases h; rw [← hg]; exact hr
def fpO (base : List (Nat × Nat)) (cns : List Nat) (o : LO) : List Nat × List Nat :=
  let R := opdT o.op ++ match o.op with
    | .alloc _ => o.dst.toList
    | _ => []
  let R := R ++ R.filterMap fun t => (base.find? fun p => p.1 == t).map (·.2)
  (R ++ gT o, o.dst.toList ++ if simple cns o = true then [] else R)
def cnO : List (Nat × List Nat) → Nat → List Nat
  | [], _ => []
  | (i, c) :: r, id => match Nat.beq id i with
    | true => c
    | false => cnO r id
def litK (base : List (Nat × Nat)) (cn : List (Nat × List Nat)) : Code → LC
  | .skip => .skip
  | .region id ops d => match d with
    | true => .drw (cnO cn id) ((ops.toList.map (liteO ops)).map (fpO base (cnO cn id))) (ops.toList.map edg) (ops.toList.map (liteO ops))
    | false => .rgn (cnO cn id) (ops.toList.map (liteO ops))
  | .seq a b => .seq (litK base cn a) (litK base cn b)
  | .cond c a b => .cond c (litK base cn a) (litK base cn b)
  | .block id a => .blk id (litK base cn a)
  | .loop a => .loop [] (litK base cn a)
  | .exit id => .exit id
  | .ret => .ret
  | _ => .bad
theorem litK_er (base : List (Nat × Nat)) (cn : List (Nat × List Nat)) : ∀ c : Code, liteC c = erC (litK base cn c)
  | .skip => rfl
  | .region id ops d => by cases d <;> simp [liteC, litK, erC]
  | .seq a b => by rw [liteC, litK, erC, litK_er base cn a, litK_er base cn b]
  | .cond c a b => by rw [liteC, litK, erC, litK_er base cn a, litK_er base cn b]
  | .block id a => by rw [liteC, litK, erC, litK_er base cn a]
  | .loop a => by rw [liteC, litK, erC, litK_er base cn a]
  | .exit id => rfl
  | .ret => rfl
  | .rangeFunc .. => rfl
  | .scope .. => rfl
  | .label .. => rfl
  | .goto .. => rfl
  | .refuse .. => rfl
def cdF (f : Func) : Code := match f.body with
  | some c => c
  | none => .skip
def chkF (bx : List Nat) (base : List (Nat × Nat)) (cn : List (Nat × List Nat)) (fn : Func) : Bool :=
  fn.body.isSome && ((fn.name == "runtime.NumGoroutine") == false && (okC fn.ntmps bx (cdF fn) && (decide (fn.results.toList.map rvSlot).Nodup && okL bx (litK base cn (cdF fn)))))
theorem litOf {P : Program} {f : Nat} {fn : Func} {bx : List Nat} {base : List (Nat × Nat)} {cn : List (Nat × List Nat)} (h1 : P.funcs[f]? = some fn) (h2 : chkF bx base cn fn = true) : Lit P f fn.ntmps bx fn.results.toList (litK base cn (cdF fn)) := by
  simp only [chkF, Bool.and_eq_true] at h2
  obtain ⟨h2, h3, h4, h5, h6⟩ := h2
  obtain ⟨c, hc⟩ := Option.isSome_iff_exists.1 h2
  refine ⟨⟨fn, c, h1, hc, eq_of_beq h3, rfl, rfl, ?_, ?_⟩, of_decide_eq_true h5, h6⟩
  · rw [← litK_er]; unfold cdF; rw [hc]
  · unfold cdF at h4; rw [hc] at h4; exact h4
end Go.Proofs.Ytmioifafgbjjhaa

namespace Go.Proofs.Ytmioifafgbjjhaa
open Go.RowKit
theorem loop_to {S O : Type} {body : (S → Option O) → S → Option O} {out : O} (f : Nat → S) : ∀ (n : Nat), (∀ k, k < n → ∀ rec, body rec (f k) = rec (f (k + 1))) → (∀ rec, body rec (f n) = some out) → ∀ m, n < m → loopF body m (f 0) = some out := by
  have key : ∀ (d n : Nat), (∀ k, k < n → ∀ rec, body rec (f k) = rec (f (k + 1))) → (∀ rec, body rec (f n) = some out) → ∀ k, k + d = n → ∀ m, d < m → loopF body m (f k) = some out := by
    intro d n h1 h2
    induction d with
    | zero =>
      intro k hk m hm
      cases m with
      | zero => omega
      | succ m => rw [show k = n by omega]; exact h2 _
    | succ d ih =>
      intro k hk m hm
      cases m with
      | zero => omega
      | succ m =>
        show body (loopF body m) (f k) = some out
        rw [h1 k (by omega)]
        exact ih (k + 1) (by omega) m (by omega)
  intro n h1 h2 m hm
  exact key n n h1 h2 0 (by omega) m hm
theorem wrap_in {n : Int} (h : -9223372036854775808 ≤ n ∧ n ≤ 9223372036854775807) : IntKind.i64.wrap n = n := by
  unfold IntKind.wrap
  simp [IntKind.signed, IntKind.bits] <;> omega
theorem wrap_s {k n : Nat} (h : k < n) (hn : n ≤ maxLen) : IntKind.i64.wrap ((k : Int) + 1) = ((k + 1 : Nat) : Int) := by
  rw [wrap_in (by unfold maxLen at hn; omega)]; simp
theorem geti_nat {α : Type} (l : List α) (k : Nat) : geti l (k : Int) = l[k]? := by simp [geti]
theorem geti_at {α : Type} {l : List α} {k : Nat} (h : k < l.length) : geti l (k : Int) = some l[k] := by rw [geti_nat, List.getElem?_eq_getElem h]
theorem lt_fz {n : Nat} (h : n ≤ lim) : n < fz := by unfold lim at h; unfold fz; omega
theorem to_loop {α β : Type} {a : List α} {g : α → Option β} {h : α → β} {B : (List β × Int → Option (List β)) → List β × Int → Option (List β)} {z : β}
    (hB : ∀ rec y i, B rec (y, i) = cond (decide (i < (List.length a : Int))) (obind (geti a i) fun e => obind (g e) fun v => obind (geti y i) fun _ => rec (seti y i v, IntKind.i64.wrap (i + 1))) (some y))
    (hg : ∀ e ∈ a, g e = some (h e)) (hl : a.length ≤ lim) : loopF B fz (List.replicate (Int.toNat (List.length a : Int)) z, 0) = some (a.map h) := by
  have := loop_to (body := B) (out := a.map h) (fun k => ((a.take k).map h ++ List.replicate (a.length - k) z, (k : Int))) a.length (fun k hk rec => ?_) (fun rec => ?_) fz (lt_fz hl)
  · simpa using this
  · rw [hB]
    have h1 : (decide ((k : Int) < (List.length a : Int))) = true := by simp; omega
    have hlen : ((a.take k).map h ++ List.replicate (a.length - k) z).length = a.length := by simp; omega
    rw [h1, cond_true, geti_at hk]
    simp only [obind]
    rw [hg _ (List.getElem_mem hk)]
    simp only
    rw [geti_at (by rw [hlen]; exact hk)]
    simp only
    congr 1
    rw [wrap_s hk (lim_max hl)]
    congr 1
    unfold seti
    rw [Int.toNat_natCast]
    have h2 : ((a.take k).map h).length = k := by simp; omega
    rw [List.set_append_right _ _ (by omega), h2, Nat.sub_self, List.take_succ_eq_append_getElem hk, List.map_append]
    have h3 : a.length - k = (a.length - (k + 1)) + 1 := by omega
    rw [h3, List.replicate_succ]
    simp
  · rw [hB]
    simp
theorem eq_loop {α : Type} {a : List α} {g : α → α → Option Bool} {B : (Int → Option (Sum Unit Bool)) → Int → Option (Sum Unit Bool)}
    (hB : ∀ rec i, B rec i = cond (decide (i < (List.length a : Int))) (obind (geti a i) fun x => obind (geti a i) fun y => obind (g x y) fun v => cond (!v) (some (.inr false)) (rec (IntKind.i64.wrap (i + 1)))) (some (.inl ())))
    (hg : ∀ e ∈ a, g e e = some true) (hl : a.length ≤ lim) : loopF B fz 0 = some (.inl ()) := by
  refine loop_to (body := B) (fun k => (k : Int)) a.length (fun k hk rec => ?_) (fun rec => ?_) fz (lt_fz hl)
  · rw [hB]
    have h1 : (decide ((k : Int) < (List.length a : Int))) = true := by simp; omega
    rw [h1, cond_true, geti_at hk]
    simp only [obind, hg _ (List.getElem_mem hk), Bool.not_true, cond_false]
    rw [wrap_s hk (lim_max hl)]
  · rw [hB]; simp
theorem chk_pos {α : Type} {p : Prop} [Decidable p] {x : Option α} (h : p) : chk p x = x := by unfold chk; rw [if_pos h]
theorem make_ok {n : Nat} (h : n ≤ lim) : (0 : Int) ≤ (n : Int) ∧ Int.toNat (n : Int) ≤ lim := by rw [Int.toNat_natCast]; exact ⟨by omega, h⟩
theorem sm_lim {n : Nat} (h : n ≤ 1048576) : n ≤ lim := by unfold lim; omega
def SzR (left : Int) (s : Option Int) (sm : Prop) (t : Nat) : Prop := ∃ v, s = some v ∧ (v < 0 ∨ (v + (t : Int) ≤ left ∧ 0 ≤ v ∧ sm))
def tzL {α : Type} (f : α → Nat) : List α → Nat
  | [] => 0
  | x :: l => f x + tzL f l
theorem tzL_app {α : Type} {f : α → Nat} : ∀ (a b : List α), tzL f (a ++ b) = tzL f a + tzL f b
  | [], b => by simp [tzL]
  | x :: a, b => by rw [List.cons_append, tzL, tzL, tzL_app a b]; omega
theorem sz_w {n : Nat} {left : Int} (h : 0 ≤ left ∧ left ≤ 1048576) (hn : n ≤ maxLen) : ∃ v, IntKind.i64.wrap (left - (n : Int)) = v ∧ (v < 0 ∨ (v + (n : Int) ≤ left ∧ 0 ≤ v ∧ n ≤ 1048576)) := by
  rw [wrap_in (by unfold maxLen at hn; omega)]
  refine ⟨_, rfl, ?_⟩
  by_cases hl : left - (n : Int) < 0
  · exact .inl hl
  · exact .inr ⟨by omega, by omega, by omega⟩
theorem sz_len {n : Nat} {left : Int} (h : 0 ≤ left ∧ left ≤ 1048576) (hn : n ≤ maxLen) : SzR left (cond (decide ((IntKind.i64.wrap (left - (n : Int))) < 0)) (some (-1)) (some (IntKind.i64.wrap (left - (n : Int))))) (n ≤ 1048576) n := by
  obtain ⟨v, e, p⟩ := sz_w h hn
  rw [e]
  rcases p with p | p
  · rw [decide_eq_true p]; exact ⟨-1, rfl, .inl (by omega)⟩
  · rw [decide_eq_false (by omega : ¬ v < 0)]; exact ⟨v, rfl, .inr p⟩
theorem sz_list {α : Type} {a : List α} {g : α → Int → Option Int} {sm : α → Prop} {tz : α → Nat} {B : (Int × Int → Option (Sum Int Int)) → Int × Int → Option (Sum Int Int)}
    (hB : ∀ rec l i, B rec (l, i) = cond (decide (i < (List.length a : Int))) (obind (geti a i) fun e => obind (g e l) fun v => cond (decide (v < 0)) (some (.inr (-1))) (rec (v, IntKind.i64.wrap (i + 1)))) (some (.inl l)))
    (hg : ∀ e ∈ a, ∀ left, 0 ≤ left ∧ left ≤ 1048576 → SzR left (g e left) (sm e) (tz e)) {left : Int} (h : 0 ≤ left ∧ left ≤ 1048576) (hn : a.length ≤ maxLen) :
    SzR left (cond (decide ((IntKind.i64.wrap (left - (List.length a : Int))) < 0)) (some (-1)) (obind (loopF B fz (IntKind.i64.wrap (left - (List.length a : Int)), 0)) fun o => (match o with
      | .inl z => some z
      | .inr r => some r))) (a.length ≤ 1048576 ∧ ∀ e ∈ a, sm e) (a.length + tzL tz a) := by
  obtain ⟨v, e, p⟩ := sz_w h hn
  rw [e]
  rcases p with p | ⟨p1, p2, p3⟩
  · rw [decide_eq_true p]; exact ⟨-1, rfl, .inl (by omega)⟩
  rw [decide_eq_false (by omega : ¬ v < 0), cond_false]
  have key : ∀ d k l, k + d = a.length → 0 ≤ l ∧ l + (tzL tz (a.take k) : Int) ≤ v → (∀ e ∈ a.take k, sm e) → ∀ m, d < m → ∃ o, loopF B m (l, (k : Int)) = some o ∧ (o = .inr (-1) ∨ ∃ z, o = .inl z ∧ 0 ≤ z ∧ z + (tzL tz a : Int) ≤ v ∧ ∀ e ∈ a, sm e) := by
    intro d
    induction d with
    | zero =>
      intro k l hk hl hs m hm
      cases m with
      | zero => omega
      | succ m =>
        rw [List.take_of_length_le (by omega)] at hl
        refine ⟨.inl l, ?_, .inr ⟨l, rfl, hl.1, hl.2, ?_⟩⟩
        · show B (loopF B m) (l, (k : Int)) = _
          rw [hB]
          rw [decide_eq_false (by omega : ¬ (k : Int) < (List.length a : Int))]
          rfl
        · rw [List.take_of_length_le (by omega)] at hs; exact hs
    | succ d ih =>
      intro k l hk hl hs m hm
      cases m with
      | zero => omega
      | succ m =>
        have hlt : k < a.length := by omega
        obtain ⟨u, e1, q⟩ := hg a[k] (List.getElem_mem hlt) l (by omega)
        have hstep : loopF B (m + 1) (l, (k : Int)) = cond (decide (u < 0)) (some (.inr (-1))) (loopF B m (u, ((k + 1 : Nat) : Int))) := by
          show B (loopF B m) (l, (k : Int)) = _
          rw [hB, decide_eq_true (by omega : (k : Int) < (List.length a : Int)), cond_true, geti_at hlt]
          simp only [obind, e1, wrap_s hlt hn]
        rcases q with q | ⟨q1, q2, q3⟩
        · exact ⟨.inr (-1), by rw [hstep, decide_eq_true q]; rfl, .inl rfl⟩
        · rw [hstep, decide_eq_false (by omega : ¬ u < 0), cond_false]
          have ht : tzL tz (a.take (k + 1)) = tzL tz (a.take k) + tz a[k] := by rw [List.take_succ_eq_append_getElem hlt, tzL_app]; simp [tzL]
          exact ih (k + 1) u (by omega) (by rw [ht]; omega) (fun e he => by
            rw [List.take_succ_eq_append_getElem hlt] at he
            rcases List.mem_append.1 he with he | he
            · exact hs e he
            · rw [List.mem_singleton.1 he]; exact q3) m (by omega)
  obtain ⟨o, e2, q⟩ := key a.length 0 v (by omega) (by simp [tzL]; omega) (by simp) fz (lt_fz (sm_lim p3))
  have e3 : loopF B fz (v, 0) = some o := by simpa using e2
  rw [e3]
  rcases q with rfl | ⟨z, rfl, q1, q2, q3⟩
  · exact ⟨-1, rfl, .inl (by omega)⟩
  · exact ⟨z, rfl, .inr ⟨by omega, q1, p3, q3⟩⟩
end Go.Proofs.Ytmioifafgbjjhaa

namespace Go.Proofs.Ytmioifafgbjjhaa
open Go.RowKit
set_option linter.unusedVariables false
def pinC (u : Value) : V → V
  | .own _ n cs => .pin u n (erL cs)
  | c => c
def isOwn : V → Bool
  | .own _ _ _ => true
  | _ => false
def isSc : V → Bool
  | .int _ _ => true
  | .bool _ => true
  | .str _ => true
  | _ => false
def oneOwn : List V → Bool
  | [] => false
  | c :: cs => (isOwn c && cs.all isSc) || (isSc c && oneOwn cs)
def tokC : List V → V
  | [] => .undef
  | c :: cs => match c with
    | .own e n ds => .own e n ds
    | _ => tokC cs
section
variable {P : Program} {w : World} {St : Nat → Nat → Prop}
theorem sc_ow {c : V} {v : Value} {b : List Nat} (hs : isSc c = true) (h : Ow P w St c v b) : b = [] := by
  cases c <;> first | exact h.1 | cases hs
theorem sc_pin {c : V} (u : Value) (hs : isSc c = true) : pinC u c = c := by cases c <;> first | rfl | cases hs
theorem sc_row : ∀ {cs : List V} {us : List Value} {b : List Nat}, cs.all isSc = true → OwRow P w St cs us b → b = []
  | [], _, _, _, h => h.2
  | c :: cs, _, _, hs, ⟨u, us', b1, b2, e1, e2, hc, h1, h2⟩ => by
    simp only [List.all_cons, Bool.and_eq_true] at hs
    rw [e2, sc_ow hs.1 h1, sc_row hs.2 h2]; rfl
theorem sc_pins : ∀ {cs : List V} (u : Value), cs.all isSc = true → cs.map (pinC u) = cs
  | [], _, _ => rfl
  | c :: cs, u, hs => by
    simp only [List.all_cons, Bool.and_eq_true] at hs
    rw [List.map_cons, sc_pin u hs.1, sc_pins u hs.2]
theorem own_pin {e : TypeId} {n : Nat} {cs : List V} {u : Value} {b : List Nat} (h : Ow P w St (.own e n cs) u b) : Ow P w St (.pin u n (erL cs)) u [] := by
  have := Rd.erase _ (Ow.rd (.own e n cs) h rfl)
  exact ⟨rfl, rfl, this⟩
theorem tok_own : ∀ {ds : List V}, oneOwn ds = true → ∃ e n cs, tokC ds = .own e n cs
  | [], h => by cases h
  | c :: cs, h => by
    simp only [oneOwn, Bool.or_eq_true, Bool.and_eq_true] at h
    rcases h with ⟨h1, h2⟩ | ⟨h1, h2⟩
    · cases c <;> first | exact ⟨_, _, _, rfl⟩ | cases h1
    · obtain ⟨e, n, cs', e1⟩ := tok_own h2
      cases c <;> first | (cases h1; done) | exact ⟨e, n, cs', e1⟩
theorem one_split : ∀ {ds : List V} {xs : List Value} {b : List Nat}, oneOwn ds = true → OwRow P w St ds xs b → ∃ u, Ow P w St (tokC ds) u b ∧ OwRow P w St (ds.map (pinC u)) xs []
  | [], _, _, h, _ => by cases h
  | c :: cs, _, _, h, ⟨u, us', b1, b2, e1, e2, hc, h1, h2⟩ => by
    simp only [oneOwn, Bool.or_eq_true, Bool.and_eq_true] at h
    rcases h with ⟨g1, g2⟩ | ⟨g1, g2⟩
    · have hb := sc_row g2 h2
      subst hb
      rw [List.append_nil] at e2
      subst e2
      cases c <;> first | (cases g1; done) | skip
      refine ⟨u, h1, ?_⟩
      rw [List.map_cons, sc_pins u g2]
      exact ⟨u, us', [], [], e1, rfl, rfl, own_pin h1, h2⟩
    · have hb := sc_ow g1 h1
      subst hb
      rw [List.nil_append] at e2
      subst e2
      obtain ⟨u', h3, h4⟩ := one_split g2 h2
      refine ⟨u', ?_, ?_⟩
      · cases c <;> first | (cases g1; done) | exact h3
      · rw [List.map_cons, sc_pin u' g1]
        exact ⟨u, us', [], [], e1, rfl, hc, h1, h4⟩
theorem one_join : ∀ {ds : List V} {xs : List Value} {b0 b : List Nat} {u : Value}, oneOwn ds = true → OwRow P w St (ds.map (pinC u)) xs b0 → Ow P w St (tokC ds) u b → OwRow P w St ds xs b
  | [], _, _, _, _, h, _, _ => by cases h
  | c :: cs, _, _, b, u, h, ⟨u', us', b1, b2, e1, e2, hc, h1, h2⟩, ht => by
    simp only [oneOwn, Bool.or_eq_true, Bool.and_eq_true] at h
    rcases h with ⟨g1, g2⟩ | ⟨g1, g2⟩
    · cases c <;> first | (cases g1; done) | skip
      have hu : u' = u := h1.2.1
      subst hu
      change OwRow P w St (cs.map (pinC u')) us' b2 at h2
      rw [sc_pins u' g2] at h2
      have hb := sc_row g2 h2
      subst hb
      exact ⟨u', us', b, [], e1, by simp, rfl, ht, h2⟩
    · have ht' : Ow P w St (tokC cs) u b := by cases c <;> first | (cases g1; done) | exact ht
      change Ow P w St (pinC u c) u' b1 at h1
      rw [sc_pin u g1] at h1
      have hb := sc_ow g1 h1
      subst hb
      have h3 := one_join g2 h2 ht'
      have hcc : c.isCell = true := by cases c <;> first | rfl | cases g1
      exact ⟨u', us', [], b, e1, by simp, hcc, h1, h3⟩
end
def enumP {α : Type} (k : Nat) : List α → List (Nat × α)
  | [] => []
  | x :: l => (k, x) :: enumP (k + 1) l
def pE {α : Type} (f : α → List V) (U : Nat → Value) (p : Nat × α) : List V := (f p.2).map (pinC (U p.1))
def mE {α : Type} (f : α → List V) (U : Nat → Value) : Nat × α ⊕ α → List V
  | .inl p => pE f U p
  | .inr x => f x
def getM {α : Type} : Nat × α ⊕ α → α
  | .inl p => p.2
  | .inr x => x
def okJ {α : Type} [BEq α] (l : List α) : List (Nat × α ⊕ α) → List Nat → Bool
  | [], _ => true
  | .inl p :: L, seen => (match l[p.1]? with
    | some x => x == p.2
    | none => false) && !seen.contains p.1 && okJ l L (p.1 :: seen)
  | .inr _ :: L, seen => okJ l L seen
section
variable {P : Program} {w : World} {St : Nat → Nat → Prop} {α : Type} {f : α → List V}
theorem ow_split (h1 : ∀ x, oneOwn (f x) = true) : ∀ (l : List α) (k : Nat) {xs : List Value} {bs : List Nat}, OwRow P w St (l.flatMap f) xs bs →
    ∃ us : List Value, us.length = l.length ∧ OwRow P w St (l.map fun x => tokC (f x)) us bs ∧ ∀ U : Nat → Value, (∀ i, i < l.length → U (k + i) = us.getD i undef) → OwRow P w St ((enumP k l).flatMap (pE f U)) xs []
  | [], k, _, _, h => ⟨[], rfl, ⟨rfl, h.2⟩, fun U _ => ⟨h.1, rfl⟩⟩
  | x :: l, k, xs, bs, h => by
    rw [List.flatMap_cons] at h
    obtain ⟨xs1, xs2, b1, b2, rfl, rfl, r1, r2⟩ := h.app
    obtain ⟨u, h3, h4⟩ := one_split (h1 x) r1
    obtain ⟨us, hl, h5, h6⟩ := ow_split h1 l (k + 1) r2
    obtain ⟨e, n, cs, et⟩ := tok_own (h1 x)
    refine ⟨u :: us, by simp [hl], ⟨u, us, b1, b2, rfl, rfl, by show (tokC (f x)).isCell = true; rw [et]; rfl, h3, h5⟩, fun U hU => ?_⟩
    have hu : U k = u := by have := hU 0 (by simp); simpa using this
    rw [enumP, List.flatMap_cons]
    have := OwRow.join (b1 := []) (b2 := []) (show OwRow P w St (pE f U (k, x)) xs1 [] by unfold pE; rw [hu]; exact h4) (h6 U (fun i hi => by
      have := hU (i + 1) (by simp; omega)
      have e : k + 1 + i = k + (i + 1) := by omega
      rw [e, this]; simp))
    exact this
theorem row_parts : ∀ {cs : List V} {us : List Value} {bs : List Nat}, OwRow P w St cs us bs → bs.Nodup → ∃ β : Nat → List Nat, (∀ i c u, cs[i]? = some c → us[i]? = some u → Ow P w St c u (β i)) ∧ (∀ i, ∀ g ∈ β i, g ∈ bs) ∧ (∀ i, (β i).Nodup) ∧ ∀ i j, i ≠ j → ∀ g ∈ β i, g ∉ β j
  | [], _, _, h, _ => ⟨fun _ => [], by simp, by simp, fun _ => List.nodup_nil, by simp⟩
  | c :: cs, _, _, ⟨u, us', b1, b2, e1, e2, hc, h1, h2⟩, hn => by
    subst e1 e2
    obtain ⟨n1, n2, n3⟩ := List.nodup_append.1 hn
    obtain ⟨β, k1, k2, k3, k4⟩ := row_parts h2 n2
    refine ⟨fun i => match i with | 0 => b1 | i + 1 => β i, ?_, ?_, ?_, ?_⟩
    · intro i c' u' hc' hu'
      cases i with
      | zero => simp only [List.getElem?_cons_zero, Option.some.injEq] at hc' hu'; subst hc' hu'; exact h1
      | succ i => exact k1 i c' u' (by simpa using hc') (by simpa using hu')
    · intro i g hg
      cases i with
      | zero => exact List.mem_append_left _ hg
      | succ i => exact List.mem_append_right _ (k2 i g hg)
    · intro i
      cases i with
      | zero => exact n1
      | succ i => exact k3 i
    · intro i j hij g hg hg'
      cases i with
      | zero =>
        cases j with
        | zero => exact hij rfl
        | succ j => exact n3 g hg g (k2 j g hg') rfl
      | succ i =>
        cases j with
        | zero => exact n3 g hg' g (k2 i g hg) rfl
        | succ j => exact k4 i j (by omega) g hg hg'
theorem ow_join [BEq α] [LawfulBEq α] (h1 : ∀ x, oneOwn (f x) = true) {l : List α} {us : List Value} {bs : List Nat} (ht : OwRow P w St (l.map fun x => tokC (f x)) us bs) (hn : bs.Nodup) {U : Nat → Value} (hU : ∀ i, i < l.length → U i = us.getD i undef) :
    ∀ (L : List (Nat × α ⊕ α)) {xs : List Value} {b0 : List Nat}, okJ l L [] = true → OwRow P w St (L.flatMap (mE f U)) xs b0 → b0.Nodup → (∀ g ∈ b0, g ∉ bs) → ∃ b', OwRow P w St ((L.map getM).flatMap f) xs b' ∧ b'.Nodup ∧ ∀ g ∈ b', g ∈ b0 ∨ g ∈ bs := by
  obtain ⟨β, k1, k2, k3, k4⟩ := row_parts ht hn
  have hlen := ht.length
  rw [List.length_map] at hlen
  have key : ∀ (L : List (Nat × α ⊕ α)) (seen : List Nat) {xs : List Value} {b0 : List Nat}, okJ l L seen = true → OwRow P w St (L.flatMap (mE f U)) xs b0 → b0.Nodup → (∀ g ∈ b0, g ∉ bs) →
      ∃ b', OwRow P w St ((L.map getM).flatMap f) xs b' ∧ b'.Nodup ∧ (∀ g ∈ b', g ∈ b0 ∨ g ∈ bs) ∧ ∀ i ∈ seen, ∀ g ∈ β i, g ∉ b' := by
    intro L
    induction L with
    | nil =>
      intro seen xs b0 _ h hnb hd
      exact ⟨[], ⟨h.1, rfl⟩, List.nodup_nil, by simp, by simp⟩
    | cons p L ih =>
      intro seen xs b0 hok h hnb hd
      rw [List.flatMap_cons] at h
      obtain ⟨xs1, xs2, b1, b2, rfl, rfl, r1, r2⟩ := h.app
      obtain ⟨n1, n2, n3⟩ := List.nodup_append.1 hnb
      cases p with
      | inr x =>
        simp only [okJ] at hok
        obtain ⟨b', q1, q2, q3, q4⟩ := ih seen hok r2 n2 (fun g hg => hd g (List.mem_append_right _ hg))
        refine ⟨b1 ++ b', ?_, ?_, ?_, ?_⟩
        · rw [List.map_cons, List.flatMap_cons]; exact OwRow.join r1 q1
        · refine List.nodup_append.2 ⟨n1, q2, fun a ha b hb e => ?_⟩
          subst e
          rcases q3 a hb with h | h
          · exact n3 a ha a h rfl
          · exact hd a (List.mem_append_left _ ha) h
        · intro g hg
          rcases List.mem_append.1 hg with hg | hg
          · exact .inl (List.mem_append_left _ hg)
          · exact (q3 g hg).imp (List.mem_append_right _) id
        · intro i hi g hg hm
          rcases List.mem_append.1 hm with hm | hm
          · exact hd g (List.mem_append_left _ hm) (k2 i g hg)
          · exact q4 i hi g hg hm
      | inl p =>
        simp only [okJ, Bool.and_eq_true, Bool.not_eq_true'] at hok
        obtain ⟨⟨g1, g2⟩, g3⟩ := hok
        obtain ⟨b', q1, q2, q3, q4⟩ := ih (p.1 :: seen) g3 r2 n2 (fun g hg => hd g (List.mem_append_right _ hg))
        have hp : l[p.1]? = some p.2 := by
          split at g1
          · rename_i x hx; rw [hx]; simpa using g1
          · cases g1
        have hpl : p.1 < l.length := by
          rcases Nat.lt_or_ge p.1 l.length with h | h
          · exact h
          · rw [List.getElem?_eq_none h] at hp; cases hp
        have hus : us[p.1]? = some (U p.1) := by
          rw [hU p.1 hpl]
          have : p.1 < us.length := by omega
          simp [this]
        have htok := k1 p.1 _ _ (by rw [List.getElem?_map, hp]; rfl) hus
        have r1' : OwRow P w St (f p.2) xs1 (β p.1) := one_join (h1 p.2) (show OwRow P w St ((f p.2).map (pinC (U p.1))) xs1 b1 from r1) htok
        refine ⟨β p.1 ++ b', ?_, ?_, ?_, ?_⟩
        · rw [List.map_cons, List.flatMap_cons]; exact OwRow.join r1' q1
        · refine List.nodup_append.2 ⟨k3 p.1, q2, fun a ha b hb e => ?_⟩
          subst e
          exact q4 p.1 (by simp) a ha hb
        · intro g hg
          rcases List.mem_append.1 hg with hg | hg
          · exact .inr (k2 p.1 g hg)
          · exact (q3 g hg).imp (List.mem_append_right _) id
        · intro i hi g hg hm
          rcases List.mem_append.1 hm with hm | hm
          · have hne : i ≠ p.1 := fun e => by
              subst e
              have : seen.contains p.1 = true := by simpa using hi
              rw [this] at g2; cases g2
            exact k4 i p.1 hne g hg hm
          · exact q4 i (by simp [hi]) g hg hm
  intro L xs b0 hok h hnb hd
  obtain ⟨b', q1, q2, q3, _⟩ := key L [] hok h hnb hd
  exact ⟨b', q1, q2, q3⟩
end
theorem zpE {α : Type} {f : α → List V} {n : Nat} (h : ∀ x, (f x).length = n) {U : Nat → Value} (p : Nat × α) : (pE f U p).length = n := by unfold pE; rw [List.length_map, h]
theorem zmE {α : Type} {f : α → List V} {n : Nat} (h : ∀ x, (f x).length = n) {U : Nat → Value} : ∀ p : Nat × α ⊕ α, (mE f U p).length = n
  | .inl p => zpE h p
  | .inr x => h x
theorem erP {α : Type} {f g : α → List V} (h : ∀ x, erL (f x) = g x) (hg : ∀ x, erL (g x) = g x) (l : List α) {u : Value} : er (.pin u l.length (erL (l.flatMap f))) = .dat l.length (l.flatMap g) := by rw [er, erL_flat h, erL_flat hg]
theorem own_inl {α : Type} {f : α → List V} {U : Nat → Value} {e : TypeId} {x : List (Nat × α)} : V.own e x.length (x.flatMap (pE f U)) = .own e (x.map (Sum.inl : Nat × α → Nat × α ⊕ α)).length ((x.map (Sum.inl : Nat × α → Nat × α ⊕ α)).flatMap (mE f U)) := by
  rw [List.length_map, List.flatMap_map]; rfl
theorem map_dgp {α : Type} {f : α → List V} {U : Nat → Value} (l : List (Nat × α)) : (l.flatMap (pE f U)).map dg1 = l.flatMap (pE f U) := by
  rw [List.map_flatMap]
  congr 1
  funext p
  unfold pE
  rw [List.map_map]
  apply List.map_congr_left
  intro c _
  cases c <;> rfl
section
variable {P : Program} {α : Type} {f : α → List V}
theorem enumP_len : ∀ (k : Nat) (l : List α), (enumP k l).length = l.length
  | _, [] => rfl
  | k, x :: l => by rw [enumP, List.length_cons, List.length_cons, enumP_len (k + 1) l]
def SplitP (P : Program) (f : α → List V) (c : V) (l : List α) (k : Nat) (c' : (Nat → Value) → V) : Prop :=
  ∀ w St t v bs, SlotR P w St t c v bs → bs.Nodup → ∃ us b1 b2, us.length = l.length ∧ OwRow P w St (l.map fun x => tokC (f x)) us b2 ∧ (b1 ++ b2).Nodup ∧ (∀ g ∈ b1 ++ b2, g ∈ bs) ∧ ∀ U : Nat → Value, (∀ i, i < l.length → U (k + i) = us.getD i undef) → SlotR P w St t (c' U) v b1
theorem ow_own_split (h1 : ∀ x, oneOwn (f x) = true) {e : TypeId} {l : List α} {k : Nat} {w : World} {St : Nat → Nat → Prop} {v : Value} {bs : List Nat} (h : Ow P w St (.own e l.length (l.flatMap f)) v bs) (hn : bs.Nodup) :
    ∃ us b1 b2, us.length = l.length ∧ OwRow P w St (l.map fun x => tokC (f x)) us b2 ∧ bs = b1 ++ b2 ∧ ∀ U : Nat → Value, (∀ i, i < l.length → U (k + i) = us.getD i undef) → Ow P w St (.own e (enumP k l).length ((enumP k l).flatMap (pE f U))) v b1 := by
  obtain ⟨hl, xs, bs', hx, hr, hb, hst, h0⟩ := h
  obtain ⟨us, hul, ht, hp⟩ := ow_split h1 l k hr
  refine ⟨us, v.ownBlock.toList, bs', hul, ht, hb, fun U hU => ?_⟩
  rw [enumP_len]
  refine ⟨hl, xs, [], hx, hp U hU, by simp, hst, fun hz => ?_⟩
  have : l = [] := List.eq_nil_of_length_eq_zero hz
  subst this; rfl
theorem split_own (h1 : ∀ x, oneOwn (f x) = true) {e : TypeId} {l : List α} {k : Nat} : SplitP P f (.own e l.length (l.flatMap f)) l k (fun U => .own e (enumP k l).length ((enumP k l).flatMap (pE f U))) := by
  intro w St t v bs h hn
  obtain ⟨us, b1, b2, q1, q2, q3, q4⟩ := ow_own_split (k := k) h1 (show Ow P w St _ v bs from h) hn
  exact ⟨us, b1, b2, q1, q2, by rw [← q3]; exact hn, fun g hg => by rw [q3]; exact hg, fun U hU => q4 U hU⟩
theorem split_box (h1 : ∀ x, oneOwn (f x) = true) {e : TypeId} {l : List α} {k : Nat} {A C : List V} : SplitP P f (.box (A ++ .own e l.length (l.flatMap f) :: C)) l k (fun U => .box (A ++ .own e (enumP k l).length ((enumP k l).flatMap (pE f U)) :: C)) := by
  rintro w St t v bs ⟨g, T, bs', arr, e1, e2, hr, rfl, hst⟩ hn
  obtain ⟨us1, us2, p1, p2, eu, eb, r1, r2⟩ := hr.app
  obtain ⟨u, us3, p3, p4, eu2, eb2, hc, r3, r4⟩ := r2
  subst eb eb2
  have hn1 := List.nodup_cons.1 hn
  have hn2 := List.nodup_append.1 hn1.2
  have hn3 := List.nodup_append.1 hn2.2.1
  obtain ⟨us, b1, b2, q1, q2, q3, q4⟩ := ow_own_split (k := k) h1 r3 hn3.1
  subst q3
  have hn4 := List.nodup_append.1 hn3.1
  refine ⟨us, g :: (p1 ++ (b1 ++ p4)), b2, q1, q2, ?_, ?_, fun U hU => ⟨g, T, p1 ++ (b1 ++ p4), arr, e1, e2, ?_, rfl, hst⟩⟩
  · rw [List.cons_append, List.nodup_cons]
    refine ⟨fun hm => hn1.1 ?_, ?_⟩
    · simp only [List.mem_append] at hm ⊢
      rcases hm with (h | h | h) | h
      · exact .inl h
      · exact .inr (.inl (.inl h))
      · exact .inr (.inr h)
      · exact .inr (.inl (.inr h))
    · refine List.nodup_append.2 ⟨List.nodup_append.2 ⟨hn2.1, List.nodup_append.2 ⟨hn4.1, hn3.2.1, fun a ha b hb => hn3.2.2 a (List.mem_append_left _ ha) b hb⟩, fun a ha b hb => hn2.2.2 a ha b (by simp only [List.mem_append] at hb ⊢; rcases hb with h | h; exact .inl (.inl h); exact .inr h)⟩, hn4.2.1, fun a ha b hb e => ?_⟩
      subst e
      simp only [List.mem_append] at ha
      rcases ha with h | h | h
      · exact hn2.2.2 a h a (by simp [hb]) rfl
      · exact hn4.2.2 a h a hb rfl
      · exact hn3.2.2 a (List.mem_append_right _ hb) a h rfl
  · intro x hx
    simp only [List.mem_append, List.mem_cons] at hx ⊢
    rcases hx with (h | h | h | h) | h
    · exact .inl h
    · exact .inr (.inl h)
    · exact .inr (.inr (.inl (.inl h)))
    · exact .inr (.inr (.inr h))
    · exact .inr (.inr (.inl (.inr h)))
  · rw [eu, eu2]
    exact OwRow.join r1 ⟨u, us3, b1, p4, rfl, rfl, rfl, q4 U hU, r4⟩
def JoinP (P : Program) [BEq α] (f : α → List V) (U : Nat → Value) (c : V) (L : List (Nat × α ⊕ α)) (c' : V) : Prop :=
  ∀ w St t v b1 (l : List α) us bs, SlotR P w St t c v b1 → OwRow P w St (l.map fun x => tokC (f x)) us bs → bs.Nodup → (∀ i, i < l.length → U i = us.getD i undef) → okJ l L [] = true → b1.Nodup → (∀ g ∈ b1, g ∉ bs) → ∃ b', SlotR P w St t c' v b' ∧ b'.Nodup ∧ ∀ g ∈ b', g ∈ b1 ∨ g ∈ bs
theorem ow_own_join [BEq α] [LawfulBEq α] (h1 : ∀ x, oneOwn (f x) = true) {e : TypeId} {L : List (Nat × α ⊕ α)} {U : Nat → Value} {w : World} {St : Nat → Nat → Prop} {v : Value} {b1 : List Nat} {l : List α} {us : List Value} {bs : List Nat} (h : Ow P w St (.own e L.length (L.flatMap (mE f U))) v b1) (ht : OwRow P w St (l.map fun x => tokC (f x)) us bs) (hn : bs.Nodup)
    (hU : ∀ i, i < l.length → U i = us.getD i undef) (hok : okJ l L [] = true) (hb1 : b1.Nodup) (hd : ∀ g ∈ b1, g ∉ bs) : ∃ b', Ow P w St (.own e (L.map getM).length ((L.map getM).flatMap f)) v b' ∧ b'.Nodup ∧ ∀ g ∈ b', g ∈ b1 ∨ g ∈ bs := by
  obtain ⟨hl, xs, bs', hx, hr, rfl, hst, h0⟩ := h
  obtain ⟨n1, n2, n3⟩ := List.nodup_append.1 hb1
  obtain ⟨b', q1, q2, q3⟩ := ow_join h1 ht hn hU L hok hr n2 (fun g hg => hd g (List.mem_append_right _ hg))
  refine ⟨v.ownBlock.toList ++ b', ⟨by rw [List.length_map]; exact hl, xs, b', by rw [List.length_map]; exact hx, q1, rfl, by rw [List.length_map]; exact hst, fun hz => ?_⟩, ?_, ?_⟩
  · rw [List.length_map] at hz
    have : L = [] := List.eq_nil_of_length_eq_zero hz
    subst this; rfl
  · refine List.nodup_append.2 ⟨n1, q2, fun a ha b hb e => ?_⟩
    subst e
    rcases q3 a hb with h | h
    · exact n3 a ha a h rfl
    · exact hd a (List.mem_append_left _ ha) h
  · intro g hg
    rcases List.mem_append.1 hg with hg | hg
    · exact .inl (List.mem_append_left _ hg)
    · exact (q3 g hg).imp (List.mem_append_right _) id
theorem join_own [BEq α] [LawfulBEq α] (h1 : ∀ x, oneOwn (f x) = true) {e : TypeId} {L : List (Nat × α ⊕ α)} {U : Nat → Value} : JoinP P f U (.own e L.length (L.flatMap (mE f U))) L (.own e (L.map getM).length ((L.map getM).flatMap f)) := by
  intro w St t v b1 l us bs h ht hn hU hok hb1 hd
  obtain ⟨b', q1, q2, q3⟩ := ow_own_join h1 (show Ow P w St _ v b1 from h) ht hn hU hok hb1 hd
  exact ⟨b', q1, q2, q3⟩
theorem join_box [BEq α] [LawfulBEq α] (h1 : ∀ x, oneOwn (f x) = true) {e : TypeId} {L : List (Nat × α ⊕ α)} {U : Nat → Value} {A C : List V} : JoinP P f U (.box (A ++ .own e L.length (L.flatMap (mE f U)) :: C)) L (.box (A ++ .own e (L.map getM).length ((L.map getM).flatMap f) :: C)) := by
  rintro w St t v b1 l us bs ⟨g, T, bs', arr, e1, e2, hr, rfl, hst⟩ ht hn hU hok hb1 hd
  obtain ⟨us1, us2, p1, p2, eu, eb, r1, r2⟩ := hr.app
  obtain ⟨u, us3, p3, p4, eu2, eb2, hc, r3, r4⟩ := r2
  subst eb eb2
  have hn1 := List.nodup_cons.1 hb1
  have hn2 := List.nodup_append.1 hn1.2
  have hn3 := List.nodup_append.1 hn2.2.1
  obtain ⟨b', q1, q2, q3⟩ := ow_own_join h1 r3 ht hn hU hok hn3.1 (fun x hx => hd x (by simp [hx]))
  have hgb : g ∉ bs := hd g (by simp)
  refine ⟨g :: (p1 ++ (b' ++ p4)), ⟨g, T, p1 ++ (b' ++ p4), arr, e1, e2, by rw [eu, eu2]; exact OwRow.join r1 ⟨u, us3, b', p4, rfl, rfl, rfl, q1, r4⟩, rfl, hst⟩, ?_, ?_⟩
  · rw [List.nodup_cons]
    refine ⟨fun hm => ?_, List.nodup_append.2 ⟨hn2.1, List.nodup_append.2 ⟨q2, hn3.2.1, fun a ha b hb e => ?_⟩, fun a ha b hb e => ?_⟩⟩
    · simp only [List.mem_append] at hm
      rcases hm with h | h | h
      · exact hn1.1 (by simp [h])
      · rcases q3 g h with h | h
        · exact hn1.1 (by simp [h])
        · exact hgb h
      · exact hn1.1 (by simp [h])
    · subst e
      rcases q3 a ha with h | h
      · exact hn3.2.2 a h a hb rfl
      · exact hd a (by simp [hb]) h
    · subst e
      rcases List.mem_append.1 hb with hb | hb
      · rcases q3 a hb with h | h
        · exact hn2.2.2 a ha a (by simp [h]) rfl
        · exact hd a (by simp [ha]) h
      · exact hn2.2.2 a ha a (by simp [hb]) rfl
  · intro x hx
    simp only [List.mem_cons, List.mem_append] at hx ⊢
    rcases hx with h | h | h | h
    · exact .inl (.inl h)
    · exact .inl (.inr (.inl h))
    · rcases q3 x h with h | h
      · exact .inl (.inr (.inr (.inl h)))
      · exact .inr h
    · exact .inl (.inr (.inr (.inr h)))
end
section
variable {P : Program} {nt base : Nat} {bx : List Nat} {St St0 : Nat → Nat → Prop} {B : Nat → List Nat} {hand : List Nat} {σ : PS} {a : Act} {w w0 : World}
theorem hsim_move (h : HSim P nt bx base St B [] σ a w) {s q : Nat} (hsq : s ≠ q) (hq : bxOf (σ q) = none) {c cq : V} {b1 b2 : List Nat} (hc : SlotR P w St (tm a) c (tm a s) b1) (hcq : SlotR P w St (tm a) cq (tm a q) b2) (hn : (b1 ++ b2).Nodup) (hsub : ∀ g ∈ b1 ++ b2, g ∈ B s ∨ g ∈ B q)
    (hb : (bxOf c).isSome = (bxOf (σ s)).isSome) (hrf : refOf c = none) (hbq : bxOf cq = none) (hrq : refOf cq = none) : HSim P nt bx base St (upd (upd B s b1) q b2) [] (upd (upd σ s c) q cq) a w := by
  have hsome : ∀ cs, bxOf c = some cs → ∃ ds, bxOf (σ s) = some ds := fun cs e => by
    rw [e] at hb
    cases hx : bxOf (σ s) with
    | none => rw [hx] at hb; cases hb
    | some ds => exact ⟨ds, rfl⟩
  have hsome' : ∀ cs, bxOf (σ s) = some cs → ∃ ds, bxOf c = some ds := fun cs e => by
    rw [e] at hb
    cases hx : bxOf c with
    | none => rw [hx] at hb; cases hb
    | some ds => exact ⟨ds, rfl⟩
  obtain ⟨n1, n2, n3⟩ := List.nodup_append.1 hn
  have hB : ∀ r, r ≠ s → r ≠ q → upd (upd B s b1) q b2 r = B r := fun r h1 h2 => by rw [upd_ne _ _ h2, upd_ne _ _ h1]
  have hBs : upd (upd B s b1) q b2 s = b1 := by rw [upd_ne _ _ hsq, upd_same]
  have hBq : upd (upd B s b1) q b2 q = b2 := upd_same _ _ _
  have hS : ∀ r, r ≠ s → r ≠ q → upd (upd σ s c) q cq r = σ r := fun r h1 h2 => by rw [upd_ne _ _ h2, upd_ne _ _ h1]
  have hSs : upd (upd σ s c) q cq s = c := by rw [upd_ne _ _ hsq, upd_same]
  have hSq : upd (upd σ s c) q cq q = cq := upd_same _ _ _
  have hin : ∀ r, (∀ g ∈ upd (upd B s b1) q b2 r, g ∈ B r ∨ ((r = s ∨ r = q) ∧ (g ∈ B s ∨ g ∈ B q))) := fun r g hg => by
    by_cases e1 : r = s
    · subst e1; rw [hBs] at hg; exact .inr ⟨.inl rfl, hsub g (List.mem_append_left _ hg)⟩
    · by_cases e2 : r = q
      · subst e2; rw [hBq] at hg; exact .inr ⟨.inr rfl, hsub g (List.mem_append_right _ hg)⟩
      · rw [hB r e1 e2] at hg; exact .inl hg
  exact
  { h with
    slot := fun r => by
      by_cases e1 : r = s
      · subst e1; rw [hSs, hBs]; exact hc
      · by_cases e2 : r = q
        · subst e2; rw [hSq, hBq]; exact hcq
        · rw [hS r e1 e2, hB r e1 e2]; exact h.slot r
    boxes := fun r cs e => by
      by_cases e1 : r = s
      · subst e1; rw [hSs] at e; obtain ⟨ds, hd⟩ := hsome cs e; exact h.boxes r ds hd
      · by_cases e2 : r = q
        · subst e2; rw [hSq, hbq] at e; cases e
        · rw [hS r e1 e2] at e; exact h.boxes r cs e
    crefs := fun r b e => by
      have hr : refOf (σ r) = some b := by
        by_cases e1 : r = s
        · subst e1; rw [hSs, hrf] at e; cases e
        · by_cases e2 : r = q
          · subst e2; rw [hSq, hrq] at e; cases e
          · rw [hS r e1 e2] at e; exact e
      obtain ⟨cs, hcs⟩ := h.crefs r b hr
      by_cases e1 : b = s
      · subst e1; rw [hSs]; exact hsome' cs hcs
      · by_cases e2 : b = q
        · subst e2; rw [hq] at hcs; cases hcs
        · rw [hS b e1 e2]; exact ⟨cs, hcs⟩
    nodup := fun r => by
      by_cases e1 : r = s
      · subst e1; rw [hBs]; exact n1
      · by_cases e2 : r = q
        · subst e2; rw [hBq]; exact n2
        · rw [hB r e1 e2]; exact h.nodup r
    apart := fun r t hrt g hg hg' => by
      by_cases e1 : (r = s ∨ r = q)
      · by_cases e2 : (t = s ∨ t = q)
        · rcases e1 with rfl | rfl <;> rcases e2 with rfl | rfl
          · exact hrt rfl
          · rw [hBs] at hg; rw [hBq] at hg'; exact n3 g hg g hg' rfl
          · rw [hBq] at hg; rw [hBs] at hg'; exact n3 g hg' g hg rfl
          · exact hrt rfl
        · have ht1 : t ≠ s := fun e => e2 (.inl e)
          have ht2 : t ≠ q := fun e => e2 (.inr e)
          rw [hB t ht1 ht2] at hg'
          rcases hin r g hg with hh | ⟨_, hh⟩
          · exact h.apart r t hrt g hh hg'
          · rcases hh with hh | hh
            · exact h.apart s t (Ne.symm ht1) g hh hg'
            · exact h.apart q t (Ne.symm ht2) g hh hg'
      · have hr1 : r ≠ s := fun e => e1 (.inl e)
        have hr2 : r ≠ q := fun e => e1 (.inr e)
        rw [hB r hr1 hr2] at hg
        rcases hin t g hg' with hh | ⟨_, hh⟩
        · exact h.apart r t hrt g hg hh
        · rcases hh with hh | hh
          · exact h.apart r s hr1 g hg hh
          · exact h.apart r q hr2 g hg hh
    hapart := fun r g hg => by simp
    range := fun r g hg => by
      rcases hin r g hg with hh | ⟨_, hh | hh⟩
      · exact h.range r g hh
      · exact h.range s g hh
      · exact h.range q g hh }
variable {Q : Exit → PS → Prop} {α : Type} {f : α → List V}
theorem ls_split1 {x : LC} {s q : Nat} {l : List α} {c : V} {c' : (Nat → Value) → V} (hs : σ s = c) (hq : σ q = .undef) (hsq : s ≠ q) (S : SplitP P f c l 0 c') (hb : ∀ U, (bxOf (c' U)).isSome = (bxOf c).isSome) (hrf : ∀ U, refOf (c' U) = none)
    (h : ∀ (U : Nat → Value) (us : List Value), us.length = l.length → (∀ i, i < l.length → U i = us.getD i undef) → LS P nt bx x (upd (upd σ s (c' U)) q (.gh us (l.map fun x => tokC (f x)))) Q) : LS P nt bx x σ Q := by
  intro cc hc hok hL base St0 w0 a w hr
  obtain ⟨St, B, hS, r1, r2, r3⟩ := hr
  have h1 := hS.slot s
  rw [hs] at h1
  obtain ⟨us, b1, b2, q1, q2, q3, q4, q5⟩ := S w St (tm a) (tm a s) (B s) h1 (hS.nodup s)
  have hU : ∀ i, i < l.length → (fun i => us.getD i undef) (0 + i) = us.getD i undef := fun i _ => by simp
  refine h (fun i => us.getD i undef) us q1 (fun i _ => rfl) cc hc hok hL base St0 w0 a w ⟨St, _, hsim_move hS hsq (by rw [hq]; rfl) (q5 (fun i => us.getD i undef) hU) (show SlotR P w St (tm a) (.gh us _) _ b2 from q2) q3 (fun g hg => .inl (q4 g hg)) (by rw [hs]; exact hb _) (hrf _) rfl rfl, r1, r2, r3⟩
theorem ls_split2 {x : LC} {s1 s2 g1 g2 : Nat} {l1 l2 : List α} {c1 c2 : V} {c1' c2' : (Nat → Value) → V} (hs1 : σ s1 = c1) (hs2 : σ s2 = c2) (hq1 : σ g1 = .undef) (hq2 : σ g2 = .undef) (hne : s1 ≠ s2 ∧ s1 ≠ g1 ∧ s1 ≠ g2 ∧ s2 ≠ g1 ∧ s2 ≠ g2 ∧ g1 ≠ g2) (S1 : SplitP P f c1 l1 0 c1') (S2 : SplitP P f c2 l2 l1.length c2')
    (hb1 : ∀ U, (bxOf (c1' U)).isSome = (bxOf c1).isSome) (hrf1 : ∀ U, refOf (c1' U) = none) (hb2 : ∀ U, (bxOf (c2' U)).isSome = (bxOf c2).isSome) (hrf2 : ∀ U, refOf (c2' U) = none)
    (h : ∀ (U : Nat → Value) (us1 us2 : List Value), us1.length = l1.length → us2.length = l2.length → (∀ i, i < (l1 ++ l2).length → U i = (us1 ++ us2).getD i undef) → LS P nt bx x (upd (upd (upd (upd σ s1 (c1' U)) g1 (.gh us1 (l1.map fun x => tokC (f x)))) s2 (c2' U)) g2 (.gh us2 (l2.map fun x => tokC (f x)))) Q) : LS P nt bx x σ Q := by
  obtain ⟨n1, n2, n3, n4, n5, n6⟩ := hne
  intro cc hc hok hL base St0 w0 a w hr
  obtain ⟨St, B, hS, r1, r2, r3⟩ := hr
  have h1 := hS.slot s1
  rw [hs1] at h1
  have h2 := hS.slot s2
  rw [hs2] at h2
  obtain ⟨us1, b1, b2, q1, q2, q3, q4, q5⟩ := S1 w St (tm a) (tm a s1) (B s1) h1 (hS.nodup s1)
  obtain ⟨us2, b3, b4, p1, p2, p3, p4, p5⟩ := S2 w St (tm a) (tm a s2) (B s2) h2 (hS.nodup s2)
  have hU1 : ∀ i, i < l1.length → (fun i => (us1 ++ us2).getD i undef) (0 + i) = us1.getD i undef := fun i hi => by
    have : i < us1.length := by omega
    simp [List.getElem?_append_left this]
  have hU2 : ∀ i, i < l2.length → (fun i => (us1 ++ us2).getD i undef) (l1.length + i) = us2.getD i undef := fun i hi => by
    simp only [List.getD_eq_getElem?_getD]
    rw [List.getElem?_append_right (by omega), q1, Nat.add_sub_cancel_left]
  have m1 := hsim_move hS n2 (by rw [hq1]; rfl) (q5 (fun i => (us1 ++ us2).getD i undef) hU1) (show SlotR P w St (tm a) (.gh us1 (l1.map fun x => tokC (f x))) _ b2 from q2) q3 (fun g hg => .inl (q4 g hg)) (by rw [hs1]; exact hb1 _) (hrf1 _) rfl rfl
  have e1 : upd (upd σ s1 (c1' fun i => (us1 ++ us2).getD i undef)) g1 (.gh us1 (l1.map fun x => tokC (f x))) s2 = c2 := by rw [upd_ne _ _ n4, upd_ne _ _ (Ne.symm n1), hs2]
  have e2 : upd (upd σ s1 (c1' fun i => (us1 ++ us2).getD i undef)) g1 (.gh us1 (l1.map fun x => tokC (f x))) g2 = .undef := by rw [upd_ne _ _ (Ne.symm n6), upd_ne _ _ (Ne.symm n3), hq2]
  have e3 : upd (upd B s1 b1) g1 b2 s2 = B s2 := by rw [upd_ne _ _ n4, upd_ne _ _ (Ne.symm n1)]
  have m2 := hsim_move m1 n5 (by rw [e2]; rfl) (p5 (fun i => (us1 ++ us2).getD i undef) hU2) (show SlotR P w St (tm a) (.gh us2 (l2.map fun x => tokC (f x))) _ b4 from p2) p3 (fun g hg => .inl (by rw [e3]; exact p4 g hg)) (by rw [e1]; exact hb2 _) (hrf2 _) rfl rfl
  exact h (fun i => (us1 ++ us2).getD i undef) us1 us2 q1 p1 (fun i _ => rfl) cc hc hok hL base St0 w0 a w ⟨St, _, m2, r1, r2, r3⟩
theorem ls_merge {x : LC} {g1 g2 : Nat} {us1 us2 : List Value} {cs1 cs2 : List V} (h1 : σ g1 = .gh us1 cs1) (h2 : σ g2 = .gh us2 cs2) (hne : g1 ≠ g2) (h : LS P nt bx x (upd (upd σ g1 (.gh (us1 ++ us2) (cs1 ++ cs2))) g2 .undef) Q) : LS P nt bx x σ Q := by
  intro cc hc hok hL base St0 w0 a w hr
  obtain ⟨St, B, hS, r1, r2, r3⟩ := hr
  have k1 := hS.slot g1
  rw [h1] at k1
  have k2 := hS.slot g2
  rw [h2] at k2
  refine h cc hc hok hL base St0 w0 a w ⟨St, _, hsim_move hS hne (by rw [h2]; rfl) (show SlotR P w St (tm a) (.gh (us1 ++ us2) (cs1 ++ cs2)) _ (B g1 ++ B g2) from OwRow.join k1 k2) (show SlotR P w St (tm a) .undef _ [] from rfl) ?_ (fun g hg => ?_) (by rw [h1]; rfl) rfl rfl rfl, r1, r2, r3⟩
  · rw [List.append_nil]
    exact List.nodup_append.2 ⟨hS.nodup g1, hS.nodup g2, fun a ha b hb e => by subst e; exact hS.apart g1 g2 hne a ha hb⟩
  · rw [List.append_nil] at hg
    exact List.mem_append.1 hg
theorem ls_join1 [BEq α] {x : LC} {s q : Nat} {l : List α} {us : List Value} {U : Nat → Value} {L : List (Nat × α ⊕ α)} {c c' : V} {cs : List V} (hs : σ s = c) (hq : σ q = .gh us cs) (hcs : cs = l.map fun x => tokC (f x)) (hsq : s ≠ q) (J : JoinP P f U c L c') (hU : ∀ i, i < l.length → U i = us.getD i undef) (hok : okJ l L [] = true)
    (hb : (bxOf c').isSome = (bxOf c).isSome) (hrf : refOf c' = none) (h : LS P nt bx x (upd (upd σ s c') q .undef) Q) : LS P nt bx x σ Q := by
  intro cc hc hok' hL base St0 w0 a w hr
  obtain ⟨St, B, hS, r1, r2, r3⟩ := hr
  have k1 := hS.slot s
  rw [hs] at k1
  have k2 := hS.slot q
  rw [hq, hcs] at k2
  obtain ⟨b', q1, q2, q3⟩ := J w St (tm a) (tm a s) (B s) l us (B q) k1 k2 (hS.nodup q) hU hok (hS.nodup s) (fun g hg => hS.apart s q hsq g hg)
  exact h cc hc hok' hL base St0 w0 a w ⟨St, _, hsim_move hS hsq (by rw [hq]; rfl) q1 (show SlotR P w St (tm a) .undef _ [] from rfl) (by rw [List.append_nil]; exact q2) (fun g hg => by rw [List.append_nil] at hg; exact q3 g hg) (by rw [hs]; exact hb) hrf rfl rfl, r1, r2, r3⟩
end
end Go.Proofs.Ytmioifafgbjjhaa
