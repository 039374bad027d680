/-
  Rules by which the printed walks go: one for each operation, over data that are lists with a printed encoding. Over no program; no conditions.
-/
import Derived.Test.YtkmkbpphdalgoaaPtab
namespace Go.Proofs.Ytkmkbpphdalgoaa
open Go.RowKit
set_option linter.unusedVariables false

/-! ### the printed functions' words -/
/-- fuel -/
def fz : Nat := 1099511627780
def loopF {S O : Type} (body : (S → Option O) → S → Option O) : Nat → S → Option O
  | 0, _ => none
  | n + 1, s => body (loopF body n) s
def chk {α : Type} (p : Prop) [Decidable p] (x : Option α) : Option α := if p then x else none
def geti {α : Type} (l : List α) (i : Int) : Option α := if 0 ≤ i then l[i.toNat]? else none
def subl {α : Type} (l : List α) (lo hi : Int) : List α := (l.take hi.toNat).drop lo.toNat
def seti {α : Type} (l : List α) (i : Int) (x : α) : List α := l.set i.toNat x
def obind {α β : Type} (x : Option α) (f : α → Option β) : Option β := match x with
  | some a => f a
  | none => none
theorem chk_some {α : Type} {p : Prop} [Decidable p] {x : Option α} {r : α} (h : chk p x = some r) : p ∧ x = some r := by
  unfold chk at h
  split at h
  · rename_i hp; exact ⟨hp, h⟩
  · cases h
theorem ob_some {α β : Type} {x : Option α} {f : α → Option β} {r : β} (h : obind x f = some r) : ∃ a, x = some a ∧ f a = some r := by
  cases x with
  | none => cases h
  | some a => exact ⟨a, rfl, h⟩
theorem cond_some {α : Type} {b : Bool} {x y : Option α} {r : α} (h : cond b x y = some r) : (b = true ∧ x = some r) ∨ (b = false ∧ y = some r) := by
  cases b
  · exact .inr ⟨rfl, h⟩
  · exact .inl ⟨rfl, h⟩
theorem geti_some {α : Type} {l : List α} {i : Int} {x : α} (h : geti l i = some x) : 0 ≤ i ∧ i < l.length ∧ l[i.toNat]? = some x := by
  unfold geti at h
  split at h
  · rename_i h0
    have : i.toNat < l.length := by
      rcases Nat.lt_or_ge i.toNat l.length with h1 | h1
      · exact h1
      · rw [List.getElem?_eq_none h1] at h; cases h
    exact ⟨h0, by omega, h⟩
  · cases h
/-! ### lists as cells -/
theorem flat_len {α : Type} {f : α → List V} {n : Nat} (hf : ∀ x, (f x).length = n) : ∀ l : List α, (l.flatMap f).length = l.length * n
  | [] => by simp
  | x :: l => by rw [List.flatMap_cons, List.length_append, hf, flat_len hf l, List.length_cons, Nat.add_mul]; omega
theorem flat_drop {α : Type} {f : α → List V} {n : Nat} (hf : ∀ x, (f x).length = n) : ∀ (l : List α) (k : Nat), (l.flatMap f).drop (k * n) = (l.drop k).flatMap f
  | [], k => by simp
  | x :: l, 0 => by simp
  | x :: l, k + 1 => by
    rw [List.flatMap_cons, Nat.add_mul, Nat.one_mul, Nat.add_comm, List.drop_append, List.drop_of_length_le (by rw [hf]; omega), hf, Nat.add_sub_cancel_left, flat_drop hf l k]
    simp
theorem flat_take {α : Type} {f : α → List V} {n : Nat} (hf : ∀ x, (f x).length = n) : ∀ (l : List α) (k : Nat), (l.flatMap f).take (k * n) = (l.take k).flatMap f
  | [], k => by simp
  | x :: l, 0 => by simp
  | x :: l, k + 1 => by
    rw [List.flatMap_cons, Nat.add_mul, Nat.one_mul, Nat.add_comm, List.take_append, List.take_of_length_le (by rw [hf]; omega), hf, Nat.add_sub_cancel_left, flat_take hf l k, List.take_succ_cons, List.flatMap_cons]
theorem fl_get {α : Type} {f : α → List V} {n : Nat} (hf : ∀ x, (f x).length = n) {l : List α} {k : Nat} {x : α} (h : l[k]? = some x) (off : Nat) : (l.flatMap f).drop (k * n + off) = (f x).drop off ++ (l.drop (k + 1)).flatMap f ∨ n < off := by
  rcases Nat.lt_or_ge n off with h1 | h1
  · exact .inr h1
  · left
    have hk : k < l.length := by
      rcases Nat.lt_or_ge k l.length with h1 | h1
      · exact h1
      · rw [List.getElem?_eq_none h1] at h; cases h
    have hx : l[k] = x := by rw [List.getElem?_eq_getElem hk] at h; injection h
    rw [← List.drop_drop, flat_drop hf, List.drop_eq_getElem_cons hk, List.flatMap_cons, hx, List.drop_append_of_le_length (by rw [hf]; exact h1)]
theorem get_cells {α : Type} {f : α → List V} {n : Nat} (hf : ∀ x, (f x).length = n) {l : List α} {k : Nat} {x : α} (h : l[k]? = some x) {d : TyD} {off : Nat} (ho : off + d.size ≤ n) : getCells d (l.flatMap f) (k * n + off) = getCells d (f x) off ∧ k * n + off + d.size ≤ (l.flatMap f).length := by
  have hk : k < l.length := by
    rcases Nat.lt_or_ge k l.length with h1 | h1
    · exact h1
    · rw [List.getElem?_eq_none h1] at h; cases h
  have hd := (fl_get hf h off).resolve_right (by omega)
  have hlen : ((f x).drop off).length = n - off := by rw [List.length_drop, hf]
  constructor
  · have key : ∀ m, m ≤ n - off → ((l.flatMap f).drop (k * n + off)).take m = ((f x).drop off).take m := fun m hm => by rw [hd, List.take_append_of_le_length (by omega)]
    have key1 : d.size = 1 → (l.flatMap f)[k * n + off]? = (f x)[off]? := fun h1 => by
      have e1 : (l.flatMap f)[k * n + off]? = ((l.flatMap f).drop (k * n + off))[0]? := by rw [List.getElem?_drop, Nat.add_zero]
      have e2 : (f x)[off]? = ((f x).drop off)[0]? := by rw [List.getElem?_drop, Nat.add_zero]
      rw [e1, e2, hd, List.getElem?_append_left (by omega)]
    cases d with
    | st m z fs => simp only [getCells]; rw [key m (by simp only [TyD.size] at ho; omega)]
    | sc z => simp only [getCells]; rw [key1 rfl]
    | sl e es eb ez => simp only [getCells]; rw [key1 rfl]
  · rw [flat_len hf]
    have : k * n + n ≤ l.length * n := by rw [← Nat.succ_mul]; exact Nat.mul_le_mul_right _ hk
    omega
theorem erL_app : ∀ (a b : List V), erL (a ++ b) = erL a ++ erL b
  | [], b => rfl
  | c :: a, b => by rw [List.cons_append, erL, erL, erL_app a b, List.cons_append]
theorem erL_flat {α : Type} {f g : α → List V} (h : ∀ x, erL (f x) = g x) : ∀ l : List α, erL (l.flatMap f) = l.flatMap g
  | [] => rfl
  | x :: l => by rw [List.flatMap_cons, List.flatMap_cons, erL_app, h, erL_flat h l]
theorem zrow_flat {α : Type} {f : α → List V} {n : Nat} {z : α} {ez : List V} (hz : f z = ez) (hn : ez.length = n) : ∀ k : Nat, zrow ez n k = (List.replicate k z).flatMap f
  | 0 => by simp [zrow]
  | k + 1 => by rw [zrow_s hn, zrow_flat hz hn k, List.replicate_succ, List.flatMap_cons, hz]
theorem repl_flat {α : Type} {f : α → List V} {n : Nat} (hf : ∀ x, (f x).length = n) {l : List α} {k : Nat} (hk : k < l.length) (x : α) : repl (l.flatMap f) (k * n) (f x) = (l.set k x).flatMap f := by
  unfold repl
  rw [hf, show k * n + n = (k + 1) * n by rw [Nat.add_mul, Nat.one_mul], flat_take hf, flat_drop hf, List.set_eq_take_append_cons_drop, if_pos hk, List.flatMap_append, List.flatMap_cons, List.append_assoc]
/-! ### states that are written out -/
def ofL : List (Nat × V) → PS
  | [] => fun _ => .undef
  | (s, c) :: L => upd (ofL L) s c
/-- a slot's datum is kept, or kept to be read only -/
def Kp (c c' : V) : Prop := c = c' ∨ (c.isVal = true ∧ dg c = c')
theorem kr {c : V} : Kp c c := .inl rfl
theorem kd {c c' : V} (h1 : c.isVal = true) (h2 : dg c = c') : Kp c c' := .inr ⟨h1, h2⟩
def okK (σ : PS) : List (Nat × V) → Prop
  | [] => True
  | (s, c) :: L => Kp (σ s) c ∧ okK σ L
def okR (L : List (Nat × V)) : Bool := L.all fun p => match refOf p.2 with
  | some b => (L.map (·.1)).contains b
  | none => true
/-- one state forgets some of another -/
def Fg (σ σ' : PS) : Prop := ∀ (P : Program) (nt : Nat) (bx : List Nat) (base : Nat) (St0 : Nat → Nat → Prop) (w0 : World) (a : Act) (w : World), Rel P nt bx base St0 w0 σ a w → Rel P nt bx base St0 w0 σ' a w
theorem ofL_at {σ : PS} : ∀ {L : List (Nat × V)}, okK σ L → ∀ s, (s ∈ L.map (·.1) → Kp (σ s) (ofL L s)) ∧ (s ∉ L.map (·.1) → ofL L s = .undef)
  | [], _, s => ⟨fun h => by simp at h, fun _ => rfl⟩
  | (q, c) :: L, ⟨h1, h2⟩, s => by
    obtain ⟨i1, i2⟩ := ofL_at h2 s
    by_cases e : s = q
    · subst e
      exact ⟨fun _ => by simp only [ofL, upd_same]; exact h1, fun h => absurd (by simp) h⟩
    · simp only [ofL, upd_ne _ _ e, List.map_cons, List.mem_cons, e, false_or]
      exact ⟨i1, i2⟩
theorem kp_bx {c c' : V} (h : Kp c c') {cs : List V} : (bxOf c' = some cs → bxOf c = some cs) ∧ (bxOf c = some cs → bxOf c' = some cs) ∧ (∀ b, refOf c' = some b → refOf c = some b) := by
  rcases h with rfl | ⟨h1, rfl⟩
  · exact ⟨id, id, fun _ => id⟩
  · have e1 := dg_notBox h1
    have e2 := val_notBox h1
    refine ⟨fun h => ?_, fun h => ?_, fun b h => ?_⟩
    · rw [e1.1] at h; cases h
    · rw [e2.1] at h; cases h
    · rw [e1.2] at h; cases h
theorem ofL_mem {L : List (Nat × V)} {s : Nat} {b : Nat} (h : refOf (ofL L s) = some b) : ∃ p ∈ L, refOf p.2 = some b := by
  induction L with
  | nil => cases h
  | cons p L ih =>
    obtain ⟨q, c⟩ := p
    by_cases e : s = q
    · subst e; rw [show ofL ((s, c) :: L) s = c from by simp [ofL, upd_same]] at h; exact ⟨(s, c), by simp, h⟩
    · rw [show ofL ((q, c) :: L) s = ofL L s from by simp [ofL, upd_ne _ _ e]] at h
      obtain ⟨p, hp, h⟩ := ih h
      exact ⟨p, by simp [hp], h⟩
theorem fg_keep {σ : PS} {L : List (Nat × V)} (h1 : okK σ L) (h2 : okR L = true) : Fg σ (ofL L) := by
  intro P nt bx base St0 w0 a w hr
  obtain ⟨St, B, h, hb, hst, hz⟩ := hr
  have hcl := ofL_at h1
  have hex : ∀ s, ∃ b : List Nat, SlotR P w St (tm a) (ofL L s) (tm a s) b ∧ (b = [] ∨ b = B s) := by
    intro s
    by_cases hs : s ∈ L.map (·.1)
    · rcases (hcl s).1 hs with e | ⟨e1, e2⟩
      · exact ⟨B s, by rw [← e]; exact h.slot s, .inr rfl⟩
      · exact ⟨[], by rw [← e2]; exact (((h.slot s).ow e1).deg e1).slot, .inl rfl⟩
    · exact ⟨[], by rw [(hcl s).2 hs]; rfl, .inl rfl⟩
  obtain ⟨B', hB⟩ := Classical.axiomOfChoice hex
  have h3 := fun s => (hB s).2
  have hsub : ∀ s, ∀ g ∈ B' s, g ∈ B s := by
    intro s g hg
    rcases h3 s with e | e
    · rw [e] at hg; simp at hg
    · rw [e] at hg; exact hg
  refine ⟨St, B', ?_, hb, hst, hz⟩
  exact
  { h with
    slot := fun s => (hB s).1
    boxes := fun s cs e => by
      by_cases hs : s ∈ L.map (·.1)
      · exact h.boxes s cs ((kp_bx ((hcl s).1 hs)).1 e)
      · rw [(hcl s).2 hs] at e; cases e
    crefs := fun s b e => by
      obtain ⟨p, hp, he⟩ := ofL_mem e
      have hb : b ∈ L.map (·.1) := by
        have := List.all_eq_true.1 h2 p hp
        rw [he] at this
        simpa using this
      by_cases hs : s ∈ L.map (·.1)
      · obtain ⟨cs, hcs⟩ := h.crefs s b ((kp_bx (cs := []) ((hcl s).1 hs)).2.2 b e)
        exact ⟨cs, (kp_bx ((hcl b).1 hb)).2.1 hcs⟩
      · rw [(hcl s).2 hs] at e; cases e
    nodup := fun s => by
      rcases h3 s with e | e
      · rw [e]; exact List.nodup_nil
      · rw [e]; exact h.nodup s
    apart := fun s t hst g hg hg' => h.apart s t hst g (hsub s g hg) (hsub t g hg')
    hapart := fun s g hg => by simp
    range := fun s g hg => h.range s g (hsub s g hg) }

/-! ### code -/
section
variable {P : Program} {nt : Nat} {bx : List Nat} {σ : PS} {Q : Exit → PS → Prop} {tb : Tb} {cns : List Nat}
theorem ls_fg {l : LC} {σ' : PS} (hf : Fg σ σ') (h : LS P nt bx l σ' Q) : LS P nt bx l σ Q :=
  fun c hc hok hL base St0 w0 a w hr => h c hc hok hL base St0 w0 a w (hf _ _ _ _ _ _ _ _ hr)
theorem ls_keep {l : LC} (L : List (Nat × V)) (h1 : okK σ L) (h2 : okR L = true) (h : LS P nt bx l (ofL L) Q) : LS P nt bx l σ Q := ls_fg (fg_keep h1 h2) h
theorem ls_rs {ops : List LO} {y : LC} (htb : TbOk P tb) (h : evS P tb cns ops σ (fun σ' => LS P nt bx y σ' Q)) : LS P nt bx (.seq (.rgn cns ops) y) σ Q := ls_seq (ls_rgn htb h)
theorem ls_rd {fps : List (List Nat × List Nat)} {es : List (List Nat)} {ops : List LO} {y : LC} (htb : TbOk P tb) (hm : P.follows .mixedOrders = true) (hD : (okD fps es && okF cns fps ops) = true) (h : evD P tb cns fps ops σ (fun σ' => LS P nt bx y σ' Q)) : LS P nt bx (.seq (.drw cns fps es ops) y) σ Q := ls_seq (ls_drw htb hm hD h)
theorem ls_cT {c : Operand} {x y : LC} {b : Bool} (hb : opV σ c = .bool b) (e : b = true) (h : LS P nt bx x σ Q) : LS P nt bx (.cond c x y) σ Q := ls_cond hb (fun _ => h) (fun e' => by rw [e] at e'; cases e')
theorem ls_cF {c : Operand} {x y : LC} {b : Bool} (hb : opV σ c = .bool b) (e : b = false) (h : LS P nt bx y σ Q) : LS P nt bx (.cond c x y) σ Q := ls_cond hb (fun e' => by rw [e] at e'; cases e') (fun _ => h)
/-- a loop: each round leaves a state that may be forgotten in part -/
theorem codeS_loopF {c : Code} (I : Nat → PS → Prop) (m0 : Nat) (h0 : I m0 σ) (round : ∀ m σ (N : PS → Prop), I m σ → (∀ σ' m' σ'', m' < m → I m' σ'' → Fg σ' σ'' → N σ') → CodeS P nt bx c σ (thenQ N Q)) : CodeS P nt bx (.loop c) σ Q := by
  intro base St0 w0 a w hr b k cs
  have key : ∀ n σ a w, I n σ → Rel P nt bx base St0 w0 σ a w →
      ∃ e a' w', (∃ σ', Q e σ' ∧ Rel P nt bx base St0 w0 σ' a' w') ∧ Arrives P (lone (b.at a (.code c :: .inLoop c :: k)) cs w) b k cs e a' w' := by
    intro n
    induction n using Nat.strongRecOn with
    | _ n ih =>
      intro σ a w hI hr
      obtain ⟨e, a₁, w₁, ⟨σ₁, hq, hr₁⟩, harr⟩ := round n σ (fun σ' => ∃ m' σ'', m' < n ∧ I m' σ'' ∧ Fg σ' σ'') hI (fun σ' m' σ'' h1 h2 h3 => ⟨m', σ'', h1, h2, h3⟩) base St0 w0 a w hr b (.inLoop c :: k) cs
      cases e with
      | normal =>
        obtain ⟨m', σ'', hlt, hI₁, hfg⟩ := hq
        obtain ⟨e₂, a₂, w₂, hq₂, harr₂⟩ := ih m' hlt σ'' a₁ w₁ hI₁ (hfg _ _ _ _ _ _ _ _ hr₁)
        exact ⟨e₂, a₂, w₂, hq₂, .of_steps (Steps.trans harr (.one step_inLoop)) harr₂⟩
      | exit id => exact ⟨_, a₁, w₁, ⟨σ₁, hq, hr₁⟩, .pass (x := .inLoop c) rfl (fun _ _ => .inl (by simp)) harr⟩
      | goto l => exact ⟨_, a₁, w₁, ⟨σ₁, hq, hr₁⟩, .pass (x := .inLoop c) rfl (fun _ _ => .inl (by simp)) harr⟩
      | ret => exact ⟨_, a₁, w₁, ⟨σ₁, hq, hr₁⟩, .pass (x := .inLoop c) rfl (fun _ _ => .inl (by simp)) harr⟩
      | panic ch => exact ⟨_, a₁, w₁, ⟨σ₁, hq, hr₁⟩, .pass (x := .inLoop c) rfl (fun _ _ => .inl (by simp)) harr⟩
      | outgrown => exact ⟨_, a₁, w₁, ⟨σ₁, hq, hr₁⟩, .pass (x := .inLoop c) rfl (fun _ _ => .inl (by simp)) harr⟩
  obtain ⟨e, a', w', hq, harr⟩ := key m0 σ a w h0 hr
  exact ⟨e, a', w', hq, .of_steps (.one step_loop) harr⟩
theorem ls_loopF {x : LC} {D : List Nat} (I : Nat → PS → Prop) (m0 : Nat) (h0 : I m0 σ) (round : ∀ m σ (N : PS → Prop), I m σ → (∀ σ' m' σ'', m' < m → I m' σ'' → Fg σ' σ'' → N σ') → LS P nt bx x σ (thenQ N Q)) : LS P nt bx (.loop D x) σ Q := by
  intro c hc hok hL
  cases c <;> first | (cases hc; done) | skip
  · simp only [liteC, erC] at hc; split at hc <;> cases hc
  · simp only [liteC, erC, LC.loop.injEq, true_and] at hc
    exact codeS_loopF I m0 h0 (fun m σ N hI hN => round m σ N hI hN _ hc hok hL)
/-- a loop that is a recursion with fuel -/
theorem ls_rec {x : LC} {D : List Nat} {id : Nat} {S O : Type} (L : S → List (Nat × V)) (body : (S → Option O) → S → Option O) (m0 : Nat) (s0 : S) (out : O) (h : loopF body m0 s0 = some out) (h1 : okK σ (L s0)) (h2 : ∀ s, okR (L s) = true)
    (round : ∀ m s (N : PS → Prop), body (loopF body m) s = some out → (∀ σ' s', loopF body m s' = some out → okK σ' (L s') → N σ') → LS P nt bx x (ofL (L s)) (thenQ N (blockQ id Q))) : LS P nt bx (.blk id (.loop D x)) σ Q := by
  refine ls_blk (ls_fg (fg_keep h1 (h2 s0)) (ls_loopF (fun m σ => ∃ s, σ = ofL (L s) ∧ loopF body m s = some out) m0 ⟨s0, rfl, h⟩ ?_))
  rintro m σ N ⟨s, rfl, hs⟩ hN
  cases m with
  | zero => cases hs
  | succ m => exact round m s N hs (fun σ' s' h3 h4 => hN σ' m _ (Nat.lt_succ_self m) ⟨s', rfl, h3⟩ (fg_keep h4 (h2 s')))
end
end Go.Proofs.Ytkmkbpphdalgoaa
