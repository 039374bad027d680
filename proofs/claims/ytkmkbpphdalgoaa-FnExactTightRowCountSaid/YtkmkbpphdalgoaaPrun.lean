/-
  The pure machine, part 9: the code of a function: sequences, tests, blocks, loops, returns; a function's call. Over no program; no conditions.
-/
import Derived.Test.YtkmkbpphdalgoaaPcode
namespace Go.Proofs.Ytkmkbpphdalgoaa
open Go.RowKit
set_option linter.unusedVariables false

/-- operations one behind the other -/
def evS (P : Program) (tb : Tb) (cns : List Nat) : List LO → PS → (PS → Prop) → Prop
  | [], σ, K => K σ
  | o :: os, σ, K => evO P tb cns o σ (fun σ' => evS P tb cns os σ' K)
theorem evO_mono {P : Program} {tb : Tb} {cns : List Nat} {K K' : PS → Prop} (hk : ∀ σ, K σ → K' σ) {o : LO} {σ : PS} (h : evO P tb cns o σ K) : evO P tb cns o σ K' := by
  have hp : ∀ {o : LO} {σ : PS}, pureS tb o σ K → pureS tb o σ K' := by
    intro o σ h
    unfold pureS at *
    split at h
    · exact h
    · split at h
      · exact ⟨h.1, hk _ h.2⟩
      · exact h
      · exact ⟨h.1, fun e => ⟨(h.2.1 e).1, hk _ (h.2.1 e).2⟩, fun e => hk _ (h.2.2 e)⟩
  have hc : ∀ {o : LO} {f : FuncId} {args : List Operand} {σ : PS}, callS P o f args σ K → callS P o f args σ K' := by
    intro o f args σ h
    unfold callS at *
    split at h
    · exact ⟨h.1, h.2.choose, h.2.choose_spec.1, hk _ h.2.choose_spec.2⟩
    · split at h
      · exact ⟨h.1, fun e => ⟨(h.2.1 e).1, (h.2.1 e).2.choose, (h.2.1 e).2.choose_spec.1, hk _ (h.2.1 e).2.choose_spec.2⟩, fun e => hk _ (h.2.2 e)⟩
      · exact h
  have ha : ∀ {o : LO} {x : Operand} {d : Nat} {σ : PS}, asgS tb o x d σ K → asgS tb o x d σ K' := by
    intro o x d σ h
    unfold asgS at *
    split at h
    · split at h
      · exact hk _ h
      · exact h
    · split at h
      · exact hk _ h
      · exact ⟨h.1, hk _ h.2⟩
    · exact ⟨h.1, hk _ h.2⟩
  have hu : ∀ {x : Operand} {d : Nat} {σ : PS}, asgU x d σ K → asgU x d σ K' := by
    intro x d σ h
    unfold asgU at *
    split at h
    · split at h
      · exact ⟨h.1, hk _ h.2⟩
      · exact h
    · exact h
  unfold evO at *
  split at h
  · split at h
    · rename_i hc; rw [if_pos hc]; exact ⟨h.1, hu h.2⟩
    · rename_i hc; rw [if_neg hc]; exact ⟨h.1, ha h.2⟩
  · split at h
    · rename_i hc; rw [if_pos hc]; exact ⟨h.1, ha h.2⟩
    · rename_i hc; rw [if_neg hc]; exact hp h
  · split at h
    · rename_i hc
      rw [if_pos hc]
      refine ⟨h.1, ?_⟩
      have h2 := h.2
      unfold loadS at *
      split at h2
      · split at h2
        · exact ⟨h2.1, hk _ h2.2⟩
        · exact h2
      · exact ⟨h2.1, hk _ h2.2⟩
      · exact h2
    · rename_i hc; rw [if_neg hc]; exact hp h
  · refine ⟨h.1, ?_⟩
    have h2 := h.2
    unfold extS at *
    split at h2
    · split at h2
      · exact ⟨h2.1, hk _ h2.2⟩
      · exact h2
    · exact h2
  · refine ⟨h.1, ?_⟩
    have h2 := h.2
    unfold stoS at *
    split at h2
    · split at h2
      · exact ⟨h2.1, h2.2.1, h2.2.2.1, hk _ h2.2.2.2⟩
      · exact h2
    · exact h2
  · refine ⟨h.1, ?_⟩
    have h2 := h.2
    unfold allocS at *
    split at h2
    · exact ⟨h2.1, hk _ h2.2⟩
    · exact h2
  · exact ⟨h.1, h.2.1, h.2.2.1, hk _ h.2.2.2⟩
  · refine ⟨h.1, ?_⟩
    have h2 := h.2
    unfold buildS at *
    split at h2
    · split at h2
      · exact hk _ h2
      · exact h2
    · exact h2
  · refine ⟨h.1, ?_⟩
    have h2 := h.2
    unfold bslS at *
    split at h2
    · split at h2
      · exact ⟨h2.1, h2.2.1, hk _ h2.2.2⟩
      · exact h2
    · exact h2
  · split at h
    · rename_i hc
      rw [if_pos hc]
      refine ⟨h.1, ?_⟩
      have h2 := h.2
      unfold makeU at *
      split at h2
      · exact ⟨h2.1, h2.2.1, h2.2.2.1, h2.2.2.2.1, hk _ h2.2.2.2.2⟩
      · exact h2
    · rename_i hc
      rw [if_neg hc]
      refine ⟨h.1, ?_⟩
      have h2 := h.2
      unfold makeS at *
      split at h2
      · exact ⟨h2.1, h2.2.1, h2.2.2.1, hk _ h2.2.2.2⟩
      · exact h2
  · unfold callS' at *
    split at h
    · exact hc h
    · refine ⟨h.1, ?_⟩
      have h2 := h.2
      unfold appS at *
      split at h2
      · exact ⟨h2.1, h2.2.1, h2.2.2.1, h2.2.2.2.1, hk _ h2.2.2.2.2⟩
      · exact h2
    · exact hp h
  · exact hp h
theorem evS_mono {P : Program} {tb : Tb} {cns : List Nat} {K K' : PS → Prop} (hk : ∀ σ, K σ → K' σ) : ∀ {os : List LO} {σ : PS}, evS P tb cns os σ K → evS P tb cns os σ K'
  | [], σ, h => hk σ h
  | o :: os, σ, h => evO_mono (fun σ' h' => evS_mono hk h') h
/-- the code, in the machine: what holds behind it, by the way that it is left -/
def CodeS (P : Program) (nt : Nat) (bx : List Nat) (c : Code) (σ : PS) (Q : Exit → PS → Prop) : Prop :=
  ∀ base St0 w0 a w, Rel P nt bx base St0 w0 σ a w → c.wp P (fun e a' w' => ∃ σ', Q e σ' ∧ Rel P nt bx base St0 w0 σ' a' w') a w
def thenQ (K : PS → Prop) (Q : Exit → PS → Prop) : Exit → PS → Prop
  | .normal, σ => K σ
  | e, σ => Q e σ
def blockQ (id : Nat) (Q : Exit → PS → Prop) : Exit → PS → Prop
  | .exit id', σ => if id' = id then Q .normal σ else Q (.exit id') σ
  | e, σ => Q e σ
section
variable {P : Program} {nt : Nat} {bx : List Nat} {σ : PS} {Q : Exit → PS → Prop} {tb : Tb}
theorem upon_mono {o : Oper} {a : Act} {K K' : Act → World → Prop} {R : Exit → Act → World → Prop} (hk : ∀ a w, K a w → K' a w) : ∀ r, o.upon P a K R r → o.upon P a K' R r := by
  intro r h
  unfold Oper.upon at *
  split <;> simp only at h
  · exact hk _ _ h
  · exact hk _ _ h
  · exact hk _ _ h
  · refine Calls.mono h ?_
    rintro (v | c | _) w' h'
    · exact hk _ _ h'
    · exact h'
    · exact h'
  · exact Rows.mono h (fun v w' h' => hk _ _ h')
  · exact h
theorem evS_sound (htb : TbOk P tb) {cns : List Nat} {ops : Array Oper} {base : Nat} {St0 : Nat → Nat → Prop} {w0 : World} {R : Exit → Act → World → Prop} {K : PS → Prop} (hR : ∀ σ' a' w', K σ' → Rel P nt bx base St0 w0 σ' a' w' → R .normal a' w') :
    ∀ (os : List Oper) (σ : PS) (a : Act) (w : World), os.all (okOp nt bx) = true → (os.map (liteO ops)).all (okA bx cns) = true → evS P tb cns (os.map (liteO ops)) σ K → Rel P nt bx base St0 w0 σ a w → wpList P ops R os a w
  | [], σ, a, w, _, _, h, hr => hR σ a w h hr
  | o :: os, σ, a, w, hok, hA, h, hr => by
    simp only [List.all_cons, List.map_cons, Bool.and_eq_true] at hok hA
    have hst := evO_sound htb hok.1 hA.1 h base St0 w0 a w R hr
    unfold wpList
    split
    · rename_i hw
      rw [if_pos hw] at hst
      exact .inl (upon_mono (fun a' w' ⟨σ', h1, h2⟩ => evS_sound htb hR os σ' a' w' hok.2 hA.2 h1 h2) _ hst)
    · rename_i hw
      rw [if_neg hw] at hst
      obtain ⟨σ', h1, h2⟩ := hst
      exact evS_sound htb hR os σ' _ w hok.2 hA.2 h1 h2
theorem codeS_region (htb : TbOk P tb) (cns : List Nat) {id : Nat} {ops : Array Oper} (hok : ops.toList.all (okOp nt bx) = true) (hA : (ops.toList.map (liteO ops)).all (okA bx cns) = true) (h : evS P tb cns (ops.toList.map (liteO ops)) σ (Q .normal)) : CodeS P nt bx (.region id ops false) σ Q :=
  fun base St0 w0 a w hr => wp_region_list (evS_sound htb (fun σ' a' w' h1 h2 => ⟨σ', h1, h2⟩) ops.toList σ a w hok hA h hr)
theorem codeS_mono {c : Code} {Q' : Exit → PS → Prop} (h : CodeS P nt bx c σ Q) (hq : ∀ e σ, Q e σ → Q' e σ) : CodeS P nt bx c σ Q' :=
  fun base St0 w0 a w hr => wp_mono (h base St0 w0 a w hr) (fun e a w ⟨σ', h1, h2⟩ => ⟨σ', hq e σ' h1, h2⟩)
theorem codeS_seq {x y : Code} (h : CodeS P nt bx x σ (thenQ (fun σ' => CodeS P nt bx y σ' Q) Q)) : CodeS P nt bx (.seq x y) σ Q := by
  intro base St0 w0 a w hr
  refine wp_seq (wp_mono (h base St0 w0 a w hr) ?_)
  rintro (_ | id | l | _ | c | _) a' w' ⟨σ', h1, h2⟩
  · exact h1 base St0 w0 a' w' h2
  all_goals exact ⟨σ', h1, h2⟩
theorem codeS_seq_k {x y : Code} (h : ∀ K : PS → Prop, (∀ σ', CodeS P nt bx y σ' Q → K σ') → CodeS P nt bx x σ (thenQ K Q)) : CodeS P nt bx (.seq x y) σ Q := codeS_seq (h _ fun _ h => h)
theorem codeS_skip (h : Q .normal σ) : CodeS P nt bx .skip σ Q := fun base St0 w0 a w hr => wp_skip ⟨σ, h, hr⟩
theorem codeS_exit {id : Nat} (h : Q (.exit id) σ) : CodeS P nt bx (.exit id) σ Q := fun base St0 w0 a w hr => wp_exit ⟨σ, h, hr⟩
theorem codeS_ret (h : Q .ret σ) : CodeS P nt bx .ret σ Q := fun base St0 w0 a w hr => wp_ret ⟨σ, h, hr⟩
theorem codeS_block {id : Nat} {c : Code} (h : CodeS P nt bx c σ (blockQ id Q)) : CodeS P nt bx (.block id c) σ Q := by
  intro base St0 w0 a w hr
  refine wp_block (wp_mono (h base St0 w0 a w hr) ?_)
  rintro (_ | id' | l | _ | c | _) a' w' ⟨σ', h1, h2⟩
  · exact ⟨σ', h1, h2⟩
  · simp only [blockQ] at h1
    simp only [Exit.inBlock]
    split at h1
    · rename_i e; rw [if_pos e]; exact ⟨σ', h1, h2⟩
    · rename_i e; rw [if_neg e]; exact ⟨σ', h1, h2⟩
  all_goals exact ⟨σ', h1, h2⟩
theorem codeS_cond {c : Operand} {x y : Code} {b : Bool} (hc : opV σ c = .bool b) (ht : b = true → CodeS P nt bx x σ Q) (hf : b = false → CodeS P nt bx y σ Q) : CodeS P nt bx (.cond c x y) σ Q := by
  intro base St0 w0 a w hr
  have he : a.eval c = .bool b := by
    obtain ⟨St, B, h, _⟩ := hr
    obtain ⟨q, hs⟩ := opnd h c
    rw [hc] at hs
    exact slot_bool hs
  exact wp_cond_split he (fun e => ht e base St0 w0 a w hr) (fun e => hf e base St0 w0 a w hr)
theorem codeS_kill {c : Code} (D : List Nat) (h : CodeS P nt bx c (kill D σ) Q) : CodeS P nt bx c σ Q :=
  fun base St0 w0 a w hr => h base St0 w0 a w (rel_kill D hr)
/-- a loop: I holds at each round's head, once the slots D are forgotten -/
theorem codeS_loop {c : Code} (D : List Nat) (I : PS → Prop) (μ : PS → Nat) (h0 : I (kill D σ)) (round : ∀ σ, I σ → CodeS P nt bx c σ (thenQ (fun σ' => I (kill D σ') ∧ μ (kill D σ') < μ σ) Q)) : CodeS P nt bx (.loop c) σ Q := by
  intro base St0 w0 a w hr b k cs
  have key : ∀ n σ a w, μ σ = n → I σ → Rel P nt bx base St0 w0 σ a w →
      ∃ e a' w', (∃ σ', Q e σ' ∧ Rel P nt bx base St0 w0 σ' a' w') ∧ Arrives P (lone (b.at a (.code c :: .inLoop c :: k)) cs w) b k cs e a' w' := by
    intro n
    induction n using Nat.strongRecOn with
    | _ n ih =>
      intro σ a w hn hI hr
      obtain ⟨e, a₁, w₁, ⟨σ₁, hq, hr₁⟩, harr⟩ := round σ hI base St0 w0 a w hr b (.inLoop c :: k) cs
      cases e with
      | normal =>
        obtain ⟨hI₁, hlt⟩ := hq
        obtain ⟨e₂, a₂, w₂, hq₂, harr₂⟩ := ih (μ (kill D σ₁)) (hn ▸ hlt) (kill D σ₁) a₁ w₁ rfl hI₁ (rel_kill D hr₁)
        exact ⟨e₂, a₂, w₂, hq₂, .of_steps (Steps.trans harr (.one step_inLoop)) harr₂⟩
      | exit id => exact ⟨_, a₁, w₁, ⟨σ₁, hq, hr₁⟩, .pass (x := .inLoop c) rfl (fun _ _ => .inl (by simp)) harr⟩
      | goto l => exact ⟨_, a₁, w₁, ⟨σ₁, hq, hr₁⟩, .pass (x := .inLoop c) rfl (fun _ _ => .inl (by simp)) harr⟩
      | ret => exact ⟨_, a₁, w₁, ⟨σ₁, hq, hr₁⟩, .pass (x := .inLoop c) rfl (fun _ _ => .inl (by simp)) harr⟩
      | panic ch => exact ⟨_, a₁, w₁, ⟨σ₁, hq, hr₁⟩, .pass (x := .inLoop c) rfl (fun _ _ => .inl (by simp)) harr⟩
      | outgrown => exact ⟨_, a₁, w₁, ⟨σ₁, hq, hr₁⟩, .pass (x := .inLoop c) rfl (fun _ _ => .inl (by simp)) harr⟩
  obtain ⟨e, a', w', hq, harr⟩ := key _ (kill D σ) a w rfl h0 (rel_kill D hr)
  exact ⟨e, a', w', hq, .of_steps (.one step_loop) harr⟩
end

section
variable {P : Program} {nt : Nat} {bx : List Nat} {σ : PS} {Q : Exit → PS → Prop} {tb : Tb}
/-- a loop by an index that goes down -/
theorem codeS_loopN {c : Code} (D : List Nat) (I : Nat → PS → Prop) (m0 : Nat) (h0 : I m0 (kill D σ)) (round : ∀ m σ, I m σ → CodeS P nt bx c σ (thenQ (fun σ' => ∃ m', m' < m ∧ I m' (kill D σ')) Q)) : CodeS P nt bx (.loop c) σ Q := by
  intro base St0 w0 a w hr b k cs
  have key : ∀ n σ a w, I n σ → Rel P nt bx base St0 w0 σ a w →
      ∃ e a' w', (∃ σ', Q e σ' ∧ Rel P nt bx base St0 w0 σ' a' w') ∧ Arrives P (lone (b.at a (.code c :: .inLoop c :: k)) cs w) b k cs e a' w' := by
    intro n
    induction n using Nat.strongRecOn with
    | _ n ih =>
      intro σ a w hI hr
      obtain ⟨e, a₁, w₁, ⟨σ₁, hq, hr₁⟩, harr⟩ := round n σ hI base St0 w0 a w hr b (.inLoop c :: k) cs
      cases e with
      | normal =>
        obtain ⟨m', hlt, hI₁⟩ := hq
        obtain ⟨e₂, a₂, w₂, hq₂, harr₂⟩ := ih m' hlt (kill D σ₁) a₁ w₁ hI₁ (rel_kill D hr₁)
        exact ⟨e₂, a₂, w₂, hq₂, .of_steps (Steps.trans harr (.one step_inLoop)) harr₂⟩
      | exit id => exact ⟨_, a₁, w₁, ⟨σ₁, hq, hr₁⟩, .pass (x := .inLoop c) rfl (fun _ _ => .inl (by simp)) harr⟩
      | goto l => exact ⟨_, a₁, w₁, ⟨σ₁, hq, hr₁⟩, .pass (x := .inLoop c) rfl (fun _ _ => .inl (by simp)) harr⟩
      | ret => exact ⟨_, a₁, w₁, ⟨σ₁, hq, hr₁⟩, .pass (x := .inLoop c) rfl (fun _ _ => .inl (by simp)) harr⟩
      | panic ch => exact ⟨_, a₁, w₁, ⟨σ₁, hq, hr₁⟩, .pass (x := .inLoop c) rfl (fun _ _ => .inl (by simp)) harr⟩
      | outgrown => exact ⟨_, a₁, w₁, ⟨σ₁, hq, hr₁⟩, .pass (x := .inLoop c) rfl (fun _ _ => .inl (by simp)) harr⟩
  obtain ⟨e, a', w', hq, harr⟩ := key m0 (kill D σ) a w h0 (rel_kill D hr)
  exact ⟨e, a', w', hq, .of_steps (.one step_loop) harr⟩
end
/-! ### code without places and edges -/
/-- code: a region with the slots whose values are taken over; a loop with the slots that are forgotten at its head -/
inductive LC where
  | skip
  | rgn (cns : List Nat) (ops : List LO)
  | drw (cns : List Nat) (fps : List (List Nat × List Nat)) (es : List (List Nat)) (ops : List LO)
  | seq (a b : LC)
  | cond (c : Operand) (a b : LC)
  | blk (id : Nat) (a : LC)
  | loop (D : List Nat) (a : LC)
  | exit (id : Nat)
  | ret
  | bad
/-- what an operation must wait for, whatever the order -/
def edg (o : Oper) : List Nat := (o.after.toList.filter (Region.binds .any)).map (·.on)
def liteC : Code → LC
  | .skip => .skip
  | .region _ ops d => if d then .drw [] [] (ops.toList.map edg) (ops.toList.map (liteO ops)) else .rgn [] (ops.toList.map (liteO ops))
  | .seq a b => .seq (liteC a) (liteC b)
  | .cond c a b => .cond c (liteC a) (liteC b)
  | .block id a => .blk id (liteC a)
  | .loop a => .loop [] (liteC a)
  | .exit id => .exit id
  | .ret => .ret
  | _ => .bad
def erC : LC → LC
  | .skip => .skip
  | .rgn _ ops => .rgn [] ops
  | .drw _ _ es ops => .drw [] [] es ops
  | .seq a b => .seq (erC a) (erC b)
  | .cond c a b => .cond c (erC a) (erC b)
  | .blk id a => .blk id (erC a)
  | .loop _ a => .loop [] (erC a)
  | .exit id => .exit id
  | .ret => .ret
  | .bad => .bad
/-- each operation's slot is in range -/
def okC (nt : Nat) (bx : List Nat) : Code → Bool
  | .region _ ops _ => ops.toList.all (okOp nt bx)
  | .seq a b => okC nt bx a && okC nt bx b
  | .cond _ a b => okC nt bx a && okC nt bx b
  | .block _ a => okC nt bx a
  | .loop a => okC nt bx a
  | _ => true
/-- each region marks the slots of the slices that may be written -/
def okL (bx : List Nat) : LC → Bool
  | .rgn cns ops => ops.all (okA bx cns)
  | .drw cns _ _ ops => ops.all (okA bx cns)
  | .seq a b => okL bx a && okL bx b
  | .cond _ a b => okL bx a && okL bx b
  | .blk _ a => okL bx a
  | .loop _ a => okL bx a
  | _ => true
/-- code, read: what holds behind it -/
def LS (P : Program) (nt : Nat) (bx : List Nat) (l : LC) (σ : PS) (Q : Exit → PS → Prop) : Prop := ∀ c, liteC c = erC l → okC nt bx c = true → okL bx l = true → CodeS P nt bx c σ Q
section
variable {P : Program} {nt : Nat} {bx : List Nat} {σ : PS} {Q : Exit → PS → Prop} {tb : Tb}
theorem ls_rgn (htb : TbOk P tb) {cns : List Nat} {ops : List LO} (h : evS P tb cns ops σ (Q .normal)) : LS P nt bx (.rgn cns ops) σ Q := by
  intro c hc hok hL
  cases c <;> first | cases hc | skip
  rename_i id ops' d
  simp only [liteC, erC] at hc
  split at hc
  · cases hc
  · rename_i hd
    simp only [LC.rgn.injEq, true_and] at hc
    have : d = false := by simpa using hd
    subst this
    exact codeS_region htb cns hok (by rw [hc]; exact hL) (by rw [hc]; exact h)
theorem ls_seq {x y : LC} (h : LS P nt bx x σ (thenQ (fun σ' => LS P nt bx y σ' Q) Q)) : LS P nt bx (.seq x y) σ Q := by
  intro c hc hok hL
  cases c <;> first | cases hc | skip
  · simp only [liteC, erC] at hc; split at hc <;> cases hc
  · rename_i a b
    simp only [liteC, erC, LC.seq.injEq] at hc
    simp only [okC, Bool.and_eq_true] at hok
    simp only [okL, Bool.and_eq_true] at hL
    refine codeS_seq (codeS_mono (h a hc.1 hok.1 hL.1) ?_)
    rintro (_ | id | l | _ | c | _) σ' hq
    · exact hq b hc.2 hok.2 hL.2
    all_goals exact hq
theorem ls_seq_k {x y : LC} (h : ∀ K : PS → Prop, (∀ σ', LS P nt bx y σ' Q → K σ') → LS P nt bx x σ (thenQ K Q)) : LS P nt bx (.seq x y) σ Q := ls_seq (h _ fun _ h => h)
theorem ls_skip (h : Q .normal σ) : LS P nt bx .skip σ Q := by
  intro c hc hok hL
  cases c <;> first | cases hc | skip
  · exact codeS_skip h
  · simp only [liteC, erC] at hc; split at hc <;> cases hc
theorem ls_exit {id : Nat} (h : Q (.exit id) σ) : LS P nt bx (.exit id) σ Q := by
  intro c hc hok hL
  cases c <;> first | (cases hc; done) | skip
  · simp only [liteC, erC] at hc; split at hc <;> cases hc
  · simp only [liteC, erC, LC.exit.injEq] at hc; subst hc; exact codeS_exit h
theorem ls_ret (h : Q .ret σ) : LS P nt bx .ret σ Q := by
  intro c hc hok hL
  cases c <;> first | (cases hc; done) | skip
  · simp only [liteC, erC] at hc; split at hc <;> cases hc
  · exact codeS_ret h
theorem ls_blk {id : Nat} {x : LC} (h : LS P nt bx x σ (blockQ id Q)) : LS P nt bx (.blk id x) σ Q := by
  intro c hc hok hL
  cases c <;> first | (cases hc; done) | skip
  · simp only [liteC, erC] at hc; split at hc <;> cases hc
  · simp only [liteC, erC, LC.blk.injEq] at hc; obtain ⟨rfl, hc⟩ := hc; exact codeS_block (h _ hc hok hL)
theorem ls_cond {c : Operand} {x y : LC} {b : Bool} (hb : opV σ c = .bool b) (ht : b = true → LS P nt bx x σ Q) (hf : b = false → LS P nt bx y σ Q) : LS P nt bx (.cond c x y) σ Q := by
  intro c hc hok hL
  cases c <;> first | (cases hc; done) | skip
  · simp only [liteC, erC] at hc; split at hc <;> cases hc
  · simp only [liteC, erC, LC.cond.injEq] at hc
    obtain ⟨rfl, h1, h2⟩ := hc
    simp only [okC, Bool.and_eq_true] at hok
    simp only [okL, Bool.and_eq_true] at hL
    exact codeS_cond hb (fun e => ht e _ h1 hok.1 hL.1) (fun e => hf e _ h2 hok.2 hL.2)
theorem ls_loop {x : LC} {D : List Nat} (I : PS → Prop) (μ : PS → Nat) (h0 : I (kill D σ)) (round : ∀ σ, I σ → LS P nt bx x σ (thenQ (fun σ' => I (kill D σ') ∧ μ (kill D σ') < μ σ) Q)) : LS P nt bx (.loop D x) σ Q := by
  intro c hc hok hL
  cases c <;> first | (cases hc; done) | skip
  · simp only [liteC, erC] at hc; split at hc <;> cases hc
  · simp only [liteC, erC, LC.loop.injEq, true_and] at hc
    exact codeS_loop D I μ h0 (fun σ hI => round σ hI _ hc hok hL)
end

section
variable {P : Program} {nt : Nat} {bx : List Nat} {σ : PS} {Q : Exit → PS → Prop} {tb : Tb}
theorem ls_mono {l : LC} {Q' : Exit → PS → Prop} (h : LS P nt bx l σ Q) (hq : ∀ e σ, Q e σ → Q' e σ) : LS P nt bx l σ Q' := fun c hc hok hL => codeS_mono (h c hc hok hL) hq
theorem ls_loopN {x : LC} {D : List Nat} (I : Nat → PS → Prop) (m0 : Nat) (h0 : I m0 (kill D σ)) (round : ∀ m σ, I m σ → LS P nt bx x σ (thenQ (fun σ' => ∃ m', m' < m ∧ I m' (kill D σ')) Q)) : LS P nt bx (.loop D x) σ Q := by
  intro c hc hok hL
  cases c <;> first | (cases hc; done) | skip
  · simp only [liteC, erC] at hc; split at hc <;> cases hc
  · simp only [liteC, erC, LC.loop.injEq, true_and] at hc
    exact codeS_loopN D I m0 h0 (fun m σ hI => round m σ hI _ hc hok hL)
/-- a loop that counts from 0 up to n: test, body, step -/
theorem ls_for (htb : TbOk P tb) {a b : Nat} {D c1 c2 : List Nat} {test step : List LO} {t : Nat} {body : LC} (n : Nat) (I : Nat → PS → Prop) (h0 : I 0 (kill D σ))
    (hI : ∀ k σ, k ≤ n → I k σ → evS P tb c1 test σ (fun σ1 => σ1 t = .bool (decide ((k : Int) < (n : Int))) ∧
      (k < n → LS P nt bx body σ1 (blockQ b (thenQ (fun σ2 => evS P tb c2 step σ2 (fun σ3 => I (k + 1) (kill D σ3))) (blockQ a Q)))) ∧ (k = n → Q .normal σ1))) :
    LS P nt bx (.blk a (.loop D (.seq (.rgn c1 test) (.seq (.cond (.tmp t) .skip (.exit a)) (.seq (.blk b body) (.rgn c2 step)))))) σ Q := by
  refine ls_blk (ls_loopN (fun m σ => ∃ k, k ≤ n ∧ m = n - k ∧ I k σ) n ⟨0, by omega, by omega, h0⟩ ?_)
  rintro m σ ⟨k, hk, rfl, hi⟩
  refine ls_seq (ls_rgn htb ?_)
  have h1 := hI k σ hk hi
  refine evS_mono ?_ h1
  rintro σ1 ⟨ht, hlt, heq⟩
  refine ls_seq (ls_cond (b := decide ((k : Int) < (n : Int))) ht (fun hd => ?_) (fun hd => ?_))
  · have hkn : k < n := by simp at hd; omega
    refine ls_skip (ls_seq (ls_blk (ls_mono (hlt hkn) ?_)))
    intro e σ2 hq
    have key : evS P tb c2 step σ2 (fun σ3 => I (k + 1) (kill D σ3)) → LS P nt bx (.rgn c2 step) σ2 (thenQ (fun σ' => ∃ m', m' < n - k ∧ ∃ k', k' ≤ n ∧ m' = n - k' ∧ I k' (kill D σ')) (blockQ a Q)) := fun h =>
      ls_rgn htb (evS_mono (fun σ3 h3 => ⟨n - (k + 1), by omega, k + 1, by omega, rfl, h3⟩) h)
    cases e with
    | normal => exact key hq
    | exit id =>
      simp only [blockQ] at hq ⊢
      split at hq
      · rename_i e; rw [if_pos e]; exact key hq
      · rename_i e; rw [if_neg e]; exact hq
    | goto l => exact hq
    | ret => exact hq
    | panic c => exact hq
    | outgrown => exact hq
  · have hkn : k = n := by simp at hd; omega
    refine ls_exit ?_
    simp only [thenQ, blockQ, if_true]
    exact heq hkn
end

/-! ### a function's results, and its call -/
def rvSlot : ResultVar → Nat
  | .tmp t => t
  | .cell t _ => t
def resV (tb : Tb) (σ : PS) : ResultVar → Option V
  | .tmp t => if (σ t).isArg = true then some (σ t) else none
  | .cell t ty => match σ t, tb ty with
    | .box cs, some (.st n _ _) => if cs.length = n then some (.agg cs) else none
    | .box [c], some (.sc _) => some c
    | .box [c], some (.sl ..) => some c
    | _, _ => none
def resL (tb : Tb) (σ : PS) : List ResultVar → Option (List V)
  | [] => some []
  | r :: rs => match resV tb σ r, resL tb σ rs with
    | some c, some cs => some (c :: cs)
    | _, _ => none
def resF (tb : Tb) (σ : PS) (rs : List ResultVar) : Option V :=
  match resL tb σ rs with
  | some [c] => some c
  | some cs => some (.tup cs)
  | none => none
section
variable {P : Program} {nt base : Nat} {bx : List Nat} {St : Nat → Nat → Prop} {B : Nat → List Nat} {σ : PS} {a : Act} {w : World} {tb : Tb}
def oneRes (tmps : Array Value) : ResultVar → Sem Value
  | .tmp t => pure (tmps.getD t undef)
  | .cell a t => do loadVar t (← asAddr (tmps.getD a undef))
theorem res_one (htb : TbOk P tb) (h : HSim P nt bx base St B [] σ a w) {r : ResultVar} {c : V} (hc : resV tb σ r = some c) :
    ∃ v bs, (oneRes a.tmps r).run P w = .ok v w ∧ Ow P w St c v bs ∧ bs.Nodup ∧ (∀ g ∈ bs, g ∈ B (rvSlot r)) ∧ c.isArg = true := by
  cases r with
  | tmp t =>
    simp only [resV] at hc
    split at hc
    · rename_i hv
      simp only [Option.some.injEq] at hc
      subst hc
      exact ⟨_, B t, rfl, (h.slot t).ow (val_of_arg hv), h.nodup t, fun _ h => h, hv⟩
    · cases hc
  | cell t ty =>
    have hs := h.slot t
    have hnd := h.nodup t
    cases hb : σ t with
    | box cs =>
      rw [hb] at hs
      obtain ⟨g, T, bs', arr, e1, e2, e3, e4, e5⟩ := hs
      rw [e4] at hnd
      have hnd' := (List.nodup_cons.1 hnd).2
      have hsub : ∀ q ∈ bs', q ∈ B t := fun q hq => by rw [e4]; exact List.mem_cons_of_mem _ hq
      have e1' : a.tmps.getD t undef = .pointer (some ⟨g, 0, none⟩) := e1
      have hcell : ∀ (j : Nat) (u : Value), arr.toList[j]? = some u → w.cell? ⟨g, 0 + j, none⟩ = some u := by
        intro j u hu
        simpa [World.cell?, e2] using hu
      have hone : ∀ (c0 : V) (dd : TyD), cs = [c0] → tb ty = some dd → dd.aggr = false → ∃ v bs, (oneRes a.tmps (.cell t ty)).run P w = .ok v w ∧ Ow P w St c0 v bs ∧ bs.Nodup ∧ (∀ g ∈ bs, g ∈ B t) ∧ c0.isArg = true := by
        intro c0 dd hcs hty hag
        subst hcs
        obtain ⟨u, us', b1, b2, q1, q2, q3, q4, q5⟩ := e3
        obtain ⟨rfl, rfl⟩ := q5
        have hu := hcell 0 u (by rw [q1]; rfl)
        rw [List.append_nil] at q2
        subst q2
        refine ⟨u, bs', ?_, q4, hnd', hsub, by cases c0 <;> first | rfl | cases q3⟩
        simp only [Nat.add_zero] at hu
        simp [oneRes, e1', asAddr, loadVar, (htb _ _ hty).isAgg, hag, hu]
      cases hty : tb ty with
      | none => simp only [resV, hb, hty] at hc; cases cs with
        | nil => cases hc
        | cons x xs => cases xs <;> cases hc
      | some d =>
        cases d with
        | st n z f =>
          simp only [resV, hb, hty] at hc
          split at hc
          · rename_i hl
            simp only [Option.some.injEq] at hc
            subst hc
            refine ⟨.agg arr, bs', ?_, ⟨arr.toList, by simp, e3⟩, hnd', hsub, rfl⟩
            have hagr := htb _ _ hty
            have hr := run_loadCells_list (P := P) (w := w) ⟨g, 0, none⟩ arr.toList (fun j v hv => by rw [add_plain]; exact hcell j v hv)
            have hlen : arr.toList.length = n := by rw [e3.length, hl]
            rw [hlen] at hr
            simp only [oneRes, e1', asAddr, loadVar, Sem.run_bind, Sem.run_pure, Result.andThen_ok, hagr.isAgg, TyD.aggr, if_true, hagr.sizeOf, TyD.size, hr, Array.toArray_toList]
          · cases hc
        | sc z =>
          match cs, hb, hc with
          | [c0], hb, hc =>
            simp only [resV, hb, hty, Option.some.injEq] at hc
            subst hc
            exact hone c0 _ rfl hty rfl
          | [], hb, hc => simp only [resV, hb, hty] at hc; cases hc
          | _ :: _ :: _, hb, hc => simp only [resV, hb, hty] at hc; cases hc
        | sl e es eb ez =>
          match cs, hb, hc with
          | [c0], hb, hc =>
            simp only [resV, hb, hty, Option.some.injEq] at hc
            subst hc
            exact hone c0 _ rfl hty rfl
          | [], hb, hc => simp only [resV, hb, hty] at hc; cases hc
          | _ :: _ :: _, hb, hc => simp only [resV, hb, hty] at hc; cases hc
    | _ => simp only [resV, hb] at hc; cases hc
theorem res_list (htb : TbOk P tb) (h : HSim P nt bx base St B [] σ a w) : ∀ (rs : List ResultVar) (cs : List V), (rs.map rvSlot).Nodup → resL tb σ rs = some cs →
    ∃ us bs, (rs.mapM (oneRes a.tmps)).run P w = .ok us w ∧ OwTup P w St cs us bs ∧ bs.Nodup ∧ (∀ g ∈ bs, ∃ r ∈ rs, g ∈ B (rvSlot r)) ∧ us.length = cs.length ∧ (∀ c, cs = [c] → ∃ u, us = [u] ∧ Ow P w St c u bs)
  | [], cs, _, e => by
    simp only [resL, Option.some.injEq] at e
    subst e
    exact ⟨[], [], rfl, ⟨rfl, rfl⟩, List.nodup_nil, by simp, rfl, by simp⟩
  | r :: rs, cs, hn, e => by
    simp only [resL] at e
    split at e
    · rename_i c cs' hc hcs
      simp only [Option.some.injEq] at e
      subst e
      simp only [List.map_cons, List.nodup_cons] at hn
      obtain ⟨v, b1, r1, o1, n1, s1, _⟩ := res_one htb h hc
      obtain ⟨us, b2, r2, o2, n2, s2, l2, l3⟩ := res_list htb h rs cs' hn.2 hcs
      refine ⟨v :: us, b1 ++ b2, ?_, ⟨v, us, b1, b2, rfl, rfl, o1, o2⟩, ?_, ?_, by simp [l2], ?_⟩
      · simp only [List.mapM_cons, Sem.run_bind, r1, Result.andThen_ok, r2, Sem.run_pure]
      · refine List.nodup_append.2 ⟨n1, n2, fun x hx y hy exy => ?_⟩
        subst exy
        obtain ⟨r', hr', hx'⟩ := s2 x hy
        have hne : rvSlot r ≠ rvSlot r' := fun e => hn.1 (e ▸ List.mem_map_of_mem hr')
        exact h.apart _ _ hne x (s1 x hx) hx'
      · intro g hg
        rcases List.mem_append.1 hg with hg | hg
        · exact ⟨r, by simp, s1 g hg⟩
        · obtain ⟨r', h1, h2⟩ := s2 g hg; exact ⟨r', by simp [h1], h2⟩
      · intro c0 hc0
        simp only [List.cons.injEq] at hc0
        obtain ⟨rfl, rfl⟩ := hc0
        obtain ⟨rfl, rfl⟩ := o2
        exact ⟨v, rfl, by rw [List.append_nil]; exact o1⟩
    · cases e
theorem res_run (htb : TbOk P tb) (h : HSim P nt bx base St B [] σ a w) {fn : Func} (hn : (fn.results.toList.map rvSlot).Nodup) {c : V} (hc : resF tb σ fn.results.toList = some c) :
    ∃ v bs, (results fn a.tmps).run P w = .ok v w ∧ Ow P w St c v bs ∧ bs.Nodup ∧ ∀ g ∈ bs, base ≤ g ∧ g < w.heap.size := by
  unfold resF at hc
  have hrun : ∀ us, (fn.results.toList.mapM (oneRes a.tmps)).run P w = .ok us w → (results fn a.tmps).run P w = .ok (if h : us.toArray.size = 1 then us.toArray[0] else .tuple us.toArray) w := by
    intro us hr
    have h0 : (fn.results.mapM (oneRes a.tmps) : Sem (Array Value)).run P w = .ok us.toArray w := by
      rw [Array.mapM_eq_mapM_toList, Sem.run_map, hr]; rfl
    have e2 : results fn a.tmps = (do let vs ← fn.results.mapM (oneRes a.tmps); pure (if h : vs.size = 1 then vs[0] else .tuple vs) : Sem Value) := by
      unfold results
      congr 1
    rw [e2]
    simp only [Sem.run_bind, h0, Result.andThen_ok, Sem.run_pure]
  have hin : ∀ bs : List Nat, (∀ g ∈ bs, ∃ r ∈ fn.results.toList, g ∈ B (rvSlot r)) → ∀ g ∈ bs, base ≤ g ∧ g < w.heap.size := fun bs hb g hg => by
    obtain ⟨r, _, h2⟩ := hb g hg
    exact h.range _ g h2
  split at hc
  · rename_i c0 hl
    simp only [Option.some.injEq] at hc
    subst hc
    obtain ⟨us, bs, r1, _, n1, s1, _, l3⟩ := res_list htb h _ _ hn hl
    obtain ⟨u, rfl, o1⟩ := l3 _ rfl
    exact ⟨u, bs, by rw [hrun _ r1]; rfl, o1, n1, hin bs s1⟩
  · rename_i cs hne hl
    simp only [Option.some.injEq] at hc
    subst hc
    obtain ⟨us, bs, r1, o1, n1, s1, l2, _⟩ := res_list htb h _ _ hn hl
    have hlen : us.toArray.size ≠ 1 := by
      intro e
      simp only [List.size_toArray] at e
      rw [l2] at e
      obtain ⟨c, hc⟩ := List.length_eq_one_iff.1 e
      exact hne c hc
    exact ⟨.tuple us.toArray, bs, by rw [hrun _ r1, dif_neg hlen], ⟨us, rfl, o1⟩, n1, hin bs s1⟩
  · cases hc
/-- an argument that owns nothing -/
def plainC : V → Bool
  | .int .. | .bool .. | .str .. | .dat .. | .arg .. => true
  | _ => false
def plainA : V → Bool
  | .agg cs => cs.all plainC
  | c => plainC c
theorem plain_ow {c : V} {v : Value} (hp : plainC c = true) (h : Rd w St c v) : Ow P w St c v [] := by
  cases c <;> first | exact ⟨rfl, h⟩ | cases hp
theorem plain_row : ∀ (cs : List V) {us : List Value}, cs.all plainC = true → RdL w St cs us → OwRow P w St cs us []
  | [], _, _, h => ⟨h, rfl⟩
  | c :: cs, _, hp, ⟨u, us', e, h1, h2⟩ => by
    simp only [List.all_cons, Bool.and_eq_true] at hp
    exact ⟨u, us', [], [], e, rfl, h1.isCell, plain_ow hp.1 h1, plain_row cs hp.2 h2⟩
theorem plain_arg {c : V} {v : Value} (hp : plainA c = true) (h : RdA w St c v) : Ow P w St c v [] := by
  cases c <;> first | exact plain_ow hp h | cases hp | skip
  obtain ⟨us, e, h⟩ := h
  exact ⟨us, e, plain_row _ hp h⟩
def initS (args : List V) : PS := fun s => (args[s]?).getD (.tup [])
theorem args_at : ∀ {args : List V} {vs : List Value}, RdAs w St args vs → vs.length = args.length ∧ ∀ (s : Nat) (c : V), args[s]? = some c → ∃ v, vs[s]? = some v ∧ RdA w St c v
  | [], _, h => by rw [show _ = [] from h]; exact ⟨rfl, by simp⟩
  | c :: args, _, ⟨u, us', e, h1, h2⟩ => by
    obtain ⟨l, hr⟩ := args_at h2
    refine ⟨by rw [e]; simp [l], fun s d hd => ?_⟩
    cases s with
    | zero => simp only [List.getElem?_cons_zero, Option.some.injEq] at hd; subst hd; exact ⟨u, by rw [e]; rfl, h1⟩
    | succ s => rw [e]; simpa using hr s d (by simpa using hd)
/-- A function's contract, out of its code. -/
theorem sound_of (htb : TbOk P tb) {f : FuncId} {fn : Func} {c : Code} {args : List V} {r : V} (hf : P.funcs[f]? = some fn) (hb : fn.body = some c) (hname : (fn.name == "runtime.NumGoroutine") = false) (bx : List Nat) (hlen : args.length ≤ fn.ntmps) (hargs : args.all plainA = true)
    (hn : (fn.results.toList.map rvSlot).Nodup) (h : CodeS P fn.ntmps bx c (initS args) (fun e σ => (e = .ret ∨ e = .normal) ∧ resF tb σ fn.results.toList = some r)) : SoundAt P f args r := by
  refine ⟨⟨fn, hf, by rw [hb]; rfl, hname⟩, fun w St vs hst hvs => ?_⟩
  obtain ⟨hl, hat⟩ := args_at hvs
  refine calls_of_wp hf hb ?_
  have htm : ∀ s, tm { tmps := vs.toArray ++ Array.replicate (fn.ntmps - vs.toArray.size) undef, defers := [] } s = (vs[s]?).getD undef := by
    intro s
    unfold tm
    rw [Array.getD_eq_getD_getElem?, Array.getElem?_append]
    split
    · simp
    · rename_i hlt
      rw [List.size_toArray] at hlt
      rw [List.getElem?_eq_none (by omega)]
      rw [Array.getElem?_replicate]
      split <;> rfl
  have hrel : Rel P fn.ntmps bx w.heap.size St w (initS args) { tmps := vs.toArray ++ Array.replicate (fn.ntmps - vs.toArray.size) undef, defers := [] } w := by
    refine ⟨St, fun _ => [], ?_, Below.refl _ _, fun _ _ _ => Iff.rfl, Nat.le_refl _⟩
    refine
    { size := by simp; omega
      defers := rfl
      slot := fun s => ?_
      boxes := fun s cs e => ?_
      crefs := fun s b e => ?_
      nodup := fun _ => List.nodup_nil
      apart := fun _ _ _ g hg => by simp at hg
      hnodup := List.nodup_nil
      hapart := fun _ g hg => by simp at hg
      range := fun _ g hg => by simp at hg
      hrange := fun g hg => by simp at hg
      st := hst }
    · rw [htm]
      cases hc : args[s]? with
      | none =>
        have : vs[s]? = none := by
          rw [List.getElem?_eq_none_iff] at hc ⊢; omega
        simp only [initS, hc, this, Option.getD_none]
        exact ⟨[], rfl, rfl, rfl⟩
      | some c =>
        obtain ⟨v, hv, hr⟩ := hat s c hc
        simp only [initS, hc, hv, Option.getD_some]
        exact (plain_arg (List.all_eq_true.1 hargs c (List.mem_of_getElem? hc)) hr).slot
    · simp only [initS] at e
      cases hc : args[s]? with
      | none => rw [hc] at e; cases e
      | some c =>
        rw [hc] at e
        have hp := List.all_eq_true.1 hargs c (List.mem_of_getElem? hc)
        simp only [Option.getD_some] at e
        cases c <;> first | (cases hp; done) | (cases e; done)
    · simp only [initS] at e
      cases hc : args[s]? with
      | none => rw [hc] at e; cases e
      | some c =>
        rw [hc] at e
        have hp := List.all_eq_true.1 hargs c (List.mem_of_getElem? hc)
        simp only [Option.getD_some] at e
        cases c <;> first | (cases hp; done) | (cases e; done)
  refine wp_mono (h _ _ _ _ _ hrel) ?_
  rintro e a' w' ⟨σ', ⟨he, hres⟩, St', B', h1, h2, h3, h4⟩
  have hfin : a'.defers = [] ∧ ∃ v, (results fn a'.tmps).run P w' = .ok v w' ∧ Ret P w St r (.returned v) w' := by
    obtain ⟨v, bs, q1, q2, q3, q4⟩ := res_run htb h1 hn hres
    exact ⟨h1.defers, v, q1, v, bs, St', rfl, h2, h3, h1.st, q2, q3, q4⟩
  rcases he with rfl | rfl
  · exact hfin
  · exact hfin
/-- what a function's code must leave -/
def retQ (tb : Tb) (rs : List ResultVar) (r : V) (e : Exit) (σ : PS) : Prop := (e = .ret ∨ e = .normal) ∧ resF tb σ rs = some r
/-- what is known of a function of the program: its number of slots, its results, its code without places -/
structure Lit (P : Program) (f : FuncId) (nt : Nat) (bx : List Nat) (rs : List ResultVar) (l : LC) : Prop where
  ex : ∃ fn c, P.funcs[f]? = some fn ∧ fn.body = some c ∧ (fn.name == "runtime.NumGoroutine") = false ∧ fn.ntmps = nt ∧ fn.results.toList = rs ∧ liteC c = erC l ∧ okC nt bx c = true
  nd : (rs.map rvSlot).Nodup
  ok : okL bx l = true
theorem sound_lit (htb : TbOk P tb) {f : FuncId} {nt : Nat} {bx : List Nat} {rs : List ResultVar} {l : LC} {args : List V} {r : V} (hl : Lit P f nt bx rs l) (hlen : args.length ≤ nt) (hargs : args.all plainA = true)
    (h : LS P nt bx l (initS args) (retQ tb rs r)) : SoundAt P f args r := by
  obtain ⟨⟨fn, c, h1, h2, h3, rfl, rfl, h6, h7⟩, hn, hL⟩ := hl
  exact sound_of htb h1 h2 h3 bx hlen hargs hn (h c h6 h7 hL)
end
end Go.Proofs.Ytkmkbpphdalgoaa
