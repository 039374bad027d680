/-
  The pure machine, part 2: what a function's slots hold, and how an operation turns it. Over no program: definitions and plain lemmas; no conditions.
-/
import Derived.Test.YtkmkbpphdalgoaaPv
namespace Go.Proofs.Ytkmkbpphdalgoaa
open Go.RowKit
set_option linter.unusedVariables false

def upd {α : Type} (f : Nat → α) (d : Nat) (x : α) : Nat → α := fun s => if s = d then x else f s
theorem upd_same {α : Type} (f : Nat → α) (d : Nat) (x : α) : upd f d x d = x := by simp [upd]
theorem upd_ne {α : Type} (f : Nat → α) {d s : Nat} (x : α) (h : s ≠ d) : upd f d x s = f s := by simp [upd, h]
/-- what the slots hold -/
abbrev PS := Nat → V
def tm (a : Act) (s : Nat) : Value := a.tmps.getD s undef
theorem tm_put (a : Act) (d : Nat) (v : Value) (h : d < a.tmps.size) : tm (a.put (some d) v) = upd (tm a) d v := by
  funext s
  simp only [tm, Act.put, upd]
  by_cases e : s = d
  · subst e; simp [h]
  · simp only [if_neg e, Array.getD_eq_getD_getElem?]
    rw [Array.getElem?_setIfInBounds_ne (by omega)]
theorem size_put (a : Act) (d : Option Tmp) (v : Value) : (a.put d v).tmps.size = a.tmps.size := by cases d <;> simp [Act.put]
theorem defers_put (a : Act) (d : Option Tmp) (v : Value) : (a.put d v).defers = a.defers := by cases d <;> simp [Act.put]

/-- the block behind a variable's address or a slice from its start on -/
def blkOf : Value → Option Nat
  | .pointer (some ⟨g, 0, none⟩) => some g
  | .slice (some ⟨g, 0, none⟩) _ _ => some g
  | _ => none
/-- the cells of a variable, or of a slice that may be written -/
def bxOf : V → Option (List V)
  | .box cs => some cs
  | .uni _ _ cs => some cs
  | _ => none
def setBx (c : V) (cs : List V) : V := match c with
  | .uni e n _ => .uni e n cs
  | _ => .box cs
theorem bxOf_setBx (c : V) (cs : List V) : bxOf (setBx c cs) = some cs := by cases c <;> rfl
/-- the slot behind a reference -/
def refOf : V → Option Nat
  | .cref b _ => some b
  | .same b => some b
  | _ => none
section
variable (P : Program) (w : World) (St : Nat → Nat → Prop) (t : Nat → Value)
/-- What a slot holds, and the blocks that it owns. -/
def SlotR : V → Value → List Nat → Prop
  | .undef, _, bs => bs = []
  | .box cs, v, bs => ∃ g T bs', ∃ arr : Array Value, v = .pointer (some ⟨g, 0, none⟩) ∧ w.heap[g]? = some (.cells arr T (0, 0)) ∧ OwRow P w St cs arr.toList bs' ∧ bs = g :: bs' ∧ ∀ o, ¬ St g o
  | .uni e n cs, v, bs => ∃ g bs', ∃ arr : Array Value, v = .slice (some ⟨g, 0, none⟩) n n ∧ w.heap[g]? = some (.cells arr e (0, 0)) ∧ OwRow P w St cs arr.toList bs' ∧ bs = g :: bs' ∧ (∀ o, ¬ St g o) ∧ n ≤ lim ∧ cs.length = n * csz P e
  | .same s, v, bs => bs = [] ∧ v = t s
  | .cref s off, v, bs => bs = [] ∧ ∃ g, blkOf (t s) = some g ∧ v = .pointer (some ⟨g, off, none⟩)
  | .adr cs off, v, bs => bs = [] ∧ ∃ b o, v = .pointer (some ⟨b, o, none⟩) ∧ RdRow w St b o (cs.drop off)
  | .int k n, v, bs => Ow P w St (.int k n) v bs
  | .bool b, v, bs => Ow P w St (.bool b) v bs
  | .str s, v, bs => Ow P w St (.str s) v bs
  | .own e n cs, v, bs => Ow P w St (.own e n cs) v bs
  | .dat n cs, v, bs => Ow P w St (.dat n cs) v bs
  | .arg n cs, v, bs => Ow P w St (.arg n cs) v bs
  | .via n cs, v, bs => Ow P w St (.via n cs) v bs
  | .agg cs, v, bs => Ow P w St (.agg cs) v bs
  | .tup cs, v, bs => Ow P w St (.tup cs) v bs
end
section
variable {P : Program} {w w' : World} {St St' : Nat → Nat → Prop} {t t' : Nat → Value}
theorem SlotR.ow {c : V} {v : Value} {bs : List Nat} (h : SlotR P w St t c v bs) (hc : c.isVal = true) : Ow P w St c v bs := by
  cases c <;> first | exact h | cases hc
theorem Ow.slot {c : V} {v : Value} {bs : List Nat} (h : Ow P w St c v bs) : SlotR P w St t c v bs := by
  cases c <;> first | exact h | exact h.elim
theorem SlotR.mono (hs : ∀ b o, St b o → St' b o) (he : Ext St w w') {c : V} {v : Value} {bs : List Nat} (h : SlotR P w St t c v bs)
    (hb : ∀ g ∈ bs, w'.heap[g]? = w.heap[g]? ∧ ∀ o, St' g o ↔ St g o) (ht : ∀ b, refOf c = some b → t' b = t b) : SlotR P w' St' t' c v bs := by
  cases c with
  | undef => exact h
  | box cs =>
    obtain ⟨g, T, bs', arr, e1, e2, h1, rfl, h2⟩ := h
    have hg := hb g (by simp)
    exact ⟨g, T, bs', arr, e1, by rw [hg.1]; exact e2, h1.mono hs he _ (fun x hx => hb x (by simp [hx])), rfl, fun o ho => h2 o ((hg.2 o).1 ho)⟩
  | uni e n cs =>
    obtain ⟨g, bs', arr, e1, e2, h1, rfl, h2, h3⟩ := h
    have hg := hb g (by simp)
    exact ⟨g, bs', arr, e1, by rw [hg.1]; exact e2, h1.mono hs he _ (fun x hx => hb x (by simp [hx])), rfl, fun o ho => h2 o ((hg.2 o).1 ho), h3⟩
  | same s => obtain ⟨e, h1⟩ := h; exact ⟨e, by rw [ht s rfl]; exact h1⟩
  | cref s off => obtain ⟨e, g, h1, h2⟩ := h; exact ⟨e, g, by rw [ht s rfl]; exact h1, h2⟩
  | adr cs off => obtain ⟨e, b, o, h1, h2⟩ := h; exact ⟨e, b, o, h1, RdRow.mono hs he b o _ h2⟩
  | int k n => exact Ow.mono hs he _ h hb
  | bool k => exact Ow.mono hs he _ h hb
  | str k => exact Ow.mono hs he _ h hb
  | own e n cs => exact Ow.mono hs he _ h hb
  | dat n cs => exact Ow.mono hs he _ h hb
  | arg n cs => exact Ow.mono hs he _ h hb
  | via n cs => exact Ow.mono hs he _ h hb
  | agg cs => exact Ow.mono hs he _ h hb
  | tup cs => exact Ow.mono hs he _ h hb
end

/-- The slots hold σ; slot s owns the blocks B s; 'hand' are the blocks of the values that an operation has taken up. -/
structure HSim (P : Program) (nt : Nat) (bx : List Nat) (base : Nat) (St : Nat → Nat → Prop) (B : Nat → List Nat) (hand : List Nat) (σ : PS) (a : Act) (w : World) : Prop where
  size : a.tmps.size = nt
  defers : a.defers = []
  slot : ∀ s, SlotR P w St (tm a) (σ s) (tm a s) (B s)
  boxes : ∀ s cs, bxOf (σ s) = some cs → s ∈ bx
  crefs : ∀ s b, refOf (σ s) = some b → ∃ cs, bxOf (σ b) = some cs
  nodup : ∀ s, (B s).Nodup
  apart : ∀ s t, s ≠ t → ∀ g ∈ B s, g ∉ B t
  hnodup : hand.Nodup
  hapart : ∀ s, ∀ g ∈ B s, g ∉ hand
  range : ∀ s, ∀ g ∈ B s, base ≤ g ∧ g < w.heap.size
  hrange : ∀ g ∈ hand, base ≤ g ∧ g < w.heap.size
  st : ∀ b o, St b o → b < w.heap.size

section
variable {P : Program} {nt base : Nat} {bx : List Nat} {St St' : Nat → Nat → Prop} {B : Nat → List Nat} {hand : List Nat} {σ : PS} {a : Act} {w w' : World}
/-- the world turns, and no slot notices -/
theorem HSim.world (h : HSim P nt bx base St B hand σ a w) (hs : ∀ b o, St b o → St' b o) (he : Ext St w w') (hz : w.heap.size ≤ w'.heap.size)
    (hb : ∀ s, ∀ g ∈ B s, w'.heap[g]? = w.heap[g]? ∧ ∀ o, St' g o ↔ St g o) (hst : ∀ b o, St' b o → b < w'.heap.size) : HSim P nt bx base St' B hand σ a w' :=
  { h with
    slot := fun s => (h.slot s).mono hs he (hb s) (fun _ _ => rfl)
    range := fun s g hg => ⟨(h.range s g hg).1, Nat.lt_of_lt_of_le (h.range s g hg).2 hz⟩
    hrange := fun g hg => ⟨(h.hrange g hg).1, Nat.lt_of_lt_of_le (h.hrange g hg).2 hz⟩
    st := hst }
/-- a smaller hand -/
theorem HSim.less (h : HSim P nt bx base St B hand σ a w) {hand' : List Nat} (hn : hand'.Nodup) (hs : ∀ g ∈ hand', g ∈ hand) : HSim P nt bx base St B hand' σ a w :=
  { h with
    hnodup := hn
    hapart := fun s g hg hm => h.hapart s g hg (hs g hm)
    hrange := fun g hg => h.hrange g (hs g hg) }
theorem dg_notBox {c : V} (h : c.isVal = true) : bxOf (dg c) = none ∧ refOf (dg c) = none := by
  cases c <;> first | (constructor <;> rfl) | cases h
theorem val_notBox {c : V} (h : c.isVal = true) : bxOf c = none ∧ refOf c = none := by
  cases c <;> first | (constructor <;> rfl) | cases h
/-- take up what a slot holds: the slot keeps the datum, to be read -/
theorem HSim.take (h : HSim P nt bx base St B hand σ a w) (s : Nat) (hv : (σ s).isVal = true) :
    Ow P w St (σ s) (tm a s) (B s) ∧ HSim P nt bx base St (upd B s []) (hand ++ B s) (upd σ s (dg (σ s))) a w := by
  have ho := (h.slot s).ow hv
  have hnb := dg_notBox hv
  refine ⟨ho, ?_⟩
  have hB : ∀ q, ∀ g ∈ upd B s [] q, q ≠ s ∧ g ∈ B q := by
    intro q g hg
    by_cases e : q = s
    · subst e; rw [upd_same] at hg; simp at hg
    · rw [upd_ne _ _ e] at hg; exact ⟨e, hg⟩
  exact
  { h with
    slot := fun q => by
      by_cases e : q = s
      · subst e; rw [upd_same, upd_same]; exact (ho.deg hv).slot
      · rw [upd_ne _ _ e, upd_ne _ _ e]; exact h.slot q
    boxes := fun q cs e => by
      by_cases eq : q = s
      · subst eq; rw [upd_same, hnb.1] at e; cases e
      · rw [upd_ne _ _ eq] at e; exact h.boxes q cs e
    crefs := fun q b e => by
      by_cases eq : q = s
      · subst eq; rw [upd_same, hnb.2] at e; cases e
      · rw [upd_ne _ _ eq] at e
        obtain ⟨cs, hcs⟩ := h.crefs q b e
        refine ⟨cs, ?_⟩
        rw [upd_ne _ _ (fun eb => by subst eb; rw [(val_notBox hv).1] at hcs; cases hcs)]; exact hcs
    nodup := fun q => by
      by_cases e : q = s
      · subst e; rw [upd_same]; exact List.nodup_nil
      · rw [upd_ne _ _ e]; exact h.nodup q
    apart := fun q r hqr g hg hg' => h.apart q r hqr g (hB q g hg).2 (hB r g hg').2
    hnodup := List.nodup_append.2 ⟨h.hnodup, h.nodup s, fun x hx y hy e => by subst e; exact h.hapart s x hy hx⟩
    hapart := fun q g hg hm => by
      obtain ⟨hq, hg⟩ := hB q g hg
      rcases List.mem_append.1 hm with hm | hm
      · exact h.hapart q g hg hm
      · exact h.apart q s hq g hg hm
    range := fun q g hg => h.range q g (hB q g hg).2
    hrange := fun g hg => by
      rcases List.mem_append.1 hg with hg | hg
      · exact h.hrange g hg
      · exact h.range s g hg }
/-- a slot that is no variable's takes a value -/
theorem HSim.put (h : HSim P nt bx base St B hand σ a w) {d : Nat} (hd : d < nt) (hx : d ∉ bx) {c : V} {v : Value} {bs : List Nat} (hc : SlotR P w St (tm a) c v bs)
    (hn : bs.Nodup) (hs : ∀ g ∈ bs, g ∈ hand) (hnb : bxOf c = none) (hcr : ∀ b, refOf c = some b → ∃ cs, bxOf (σ b) = some cs) :
    HSim P nt bx base St (upd B d bs) [] (upd σ d c) (a.put (some d) v) w := by
  have ht := tm_put a d v (by rw [h.size]; exact hd)
  have hbd : ∀ b cs, bxOf (σ b) = some cs → b ≠ d := fun b cs e eb => hx (eb ▸ h.boxes b cs e)
  have hbox : ∀ b, (∃ cs, bxOf (σ b) = some cs) → ∃ cs, bxOf (upd σ d c b) = some cs := fun b ⟨cs, e⟩ => ⟨cs, by rw [upd_ne _ _ (hbd b cs e)]; exact e⟩
  refine
  { size := by rw [size_put]; exact h.size
    defers := by rw [defers_put]; exact h.defers
    slot := fun q => by
      rw [ht]
      by_cases e : q = d
      · subst e; rw [upd_same, upd_same, upd_same]
        exact hc.mono (fun _ _ h => h) (fun _ _ _ => rfl) (fun _ _ => ⟨rfl, fun _ => Iff.rfl⟩) (fun b eb => upd_ne _ _ (by obtain ⟨cs, e⟩ := hcr b eb; exact hbd b cs e))
      · rw [upd_ne _ _ e, upd_ne _ _ e, upd_ne _ _ e]
        exact (h.slot q).mono (fun _ _ h => h) (fun _ _ _ => rfl) (fun _ _ => ⟨rfl, fun _ => Iff.rfl⟩) (fun b eb => upd_ne _ _ (by obtain ⟨cs, e⟩ := h.crefs q b eb; exact hbd b cs e))
    boxes := fun q cs e => by
      by_cases eq : q = d
      · subst eq; rw [upd_same, hnb] at e; cases e
      · rw [upd_ne _ _ eq] at e; exact h.boxes q cs e
    crefs := fun q b e => by
      by_cases eq : q = d
      · subst eq; rw [upd_same] at e; exact hbox b (hcr b e)
      · rw [upd_ne _ _ eq] at e; exact hbox b (h.crefs q b e)
    nodup := fun q => by
      by_cases e : q = d
      · subst e; rw [upd_same]; exact hn
      · rw [upd_ne _ _ e]; exact h.nodup q
    apart := fun q r hqr g hg hg' => by
      by_cases e : q = d
      · subst e; rw [upd_same] at hg; rw [upd_ne _ _ (Ne.symm hqr)] at hg'; exact h.hapart r g hg' (hs g hg)
      · rw [upd_ne _ _ e] at hg
        by_cases e' : r = d
        · subst e'; rw [upd_same] at hg'; exact h.hapart q g hg (hs g hg')
        · rw [upd_ne _ _ e'] at hg'; exact h.apart q r hqr g hg hg'
    hnodup := List.nodup_nil
    hapart := fun _ _ _ => by simp
    range := fun q g hg => by
      by_cases e : q = d
      · subst e; rw [upd_same] at hg; exact h.hrange g (hs g hg)
      · rw [upd_ne _ _ e] at hg; exact h.range q g hg
    hrange := by simp
    st := h.st }
/-- a variable's slot takes the address of a new variable -/
theorem HSim.putBox (h : HSim P nt bx base St B hand σ a w) {d : Nat} (hd : d < nt) (hx : d ∈ bx) (hold : bxOf (σ d) = none) {c : V} {v : Value} {bs : List Nat} (hc : SlotR P w St (tm a) c v bs)
    (hn : bs.Nodup) (hs : ∀ g ∈ bs, g ∈ hand) (hrf : refOf c = none) : HSim P nt bx base St (upd B d bs) [] (upd σ d c) (a.put (some d) v) w := by
  have ht := tm_put a d v (by rw [h.size]; exact hd)
  have hbd : ∀ b cs, bxOf (σ b) = some cs → b ≠ d := fun b cs e eb => by subst eb; rw [hold] at e; cases e
  have hbox : ∀ b, (∃ cs, bxOf (σ b) = some cs) → ∃ cs', bxOf (upd σ d c b) = some cs' := fun b ⟨cs', e⟩ => ⟨cs', by rw [upd_ne _ _ (hbd b cs' e)]; exact e⟩
  refine
  { size := by rw [size_put]; exact h.size
    defers := by rw [defers_put]; exact h.defers
    slot := fun q => by
      rw [ht]
      by_cases e : q = d
      · subst e; rw [upd_same, upd_same, upd_same]
        exact hc.mono (fun _ _ h => h) (fun _ _ _ => rfl) (fun _ _ => ⟨rfl, fun _ => Iff.rfl⟩) (fun b eb => by rw [hrf] at eb; cases eb)
      · rw [upd_ne _ _ e, upd_ne _ _ e, upd_ne _ _ e]
        exact (h.slot q).mono (fun _ _ h => h) (fun _ _ _ => rfl) (fun _ _ => ⟨rfl, fun _ => Iff.rfl⟩) (fun b eb => upd_ne _ _ (by obtain ⟨cs, e⟩ := h.crefs q b eb; exact hbd b cs e))
    boxes := fun q cs e => by
      by_cases eq : q = d
      · subst eq; exact hx
      · rw [upd_ne _ _ eq] at e; exact h.boxes q cs e
    crefs := fun q b e => by
      by_cases eq : q = d
      · subst eq; rw [upd_same, hrf] at e; cases e
      · rw [upd_ne _ _ eq] at e; exact hbox b (h.crefs q b e)
    nodup := fun q => by
      by_cases e : q = d
      · subst e; rw [upd_same]; exact hn
      · rw [upd_ne _ _ e]; exact h.nodup q
    apart := fun q r hqr g hg hg' => by
      by_cases e : q = d
      · subst e; rw [upd_same] at hg; rw [upd_ne _ _ (Ne.symm hqr)] at hg'; exact h.hapart r g hg' (hs g hg)
      · rw [upd_ne _ _ e] at hg
        by_cases e' : r = d
        · subst e'; rw [upd_same] at hg'; exact h.hapart q g hg (hs g hg')
        · rw [upd_ne _ _ e'] at hg'; exact h.apart q r hqr g hg hg'
    hnodup := List.nodup_nil
    hapart := fun _ _ _ => by simp
    range := fun q g hg => by
      by_cases e : q = d
      · subst e; rw [upd_same] at hg; exact h.hrange g (hs g hg)
      · rw [upd_ne _ _ e] at hg; exact h.range q g hg
    hrange := by simp
    st := h.st }
/-- what a variable holds turns -/
theorem HSim.setBox (h : HSim P nt bx base St B hand σ a w) {s : Nat} {cs cs' : List V} {c' : V} (hcs : bxOf (σ s) = some cs) (hcs' : bxOf c' = some cs') {bs : List Nat} {hand' : List Nat} (hc : SlotR P w St (tm a) c' (tm a s) bs)
    (hn : bs.Nodup) (hs : ∀ g ∈ bs, g ∈ B s ∨ g ∈ hand) (hn' : hand'.Nodup) (hs' : ∀ g ∈ hand', g ∈ B s ∨ g ∈ hand) (hap : ∀ g ∈ bs, g ∉ hand') :
    HSim P nt bx base St (upd B s bs) hand' (upd σ s c') a w := by
  have hrf : refOf c' = none := by cases c' <;> first | rfl | cases hcs'
  have hbox : ∀ b, (∃ cs, bxOf (σ b) = some cs) → ∃ cs'', bxOf (upd σ s c' b) = some cs'' := fun b ⟨cs, e⟩ => by
    by_cases eb : b = s
    · subst eb; exact ⟨cs', by rw [upd_same]; exact hcs'⟩
    · exact ⟨cs, by rw [upd_ne _ _ eb]; exact e⟩
  have hout : ∀ q, q ≠ s → ∀ g ∈ B q, ¬ (g ∈ B s ∨ g ∈ hand) := fun q hq g hg hm => by
    rcases hm with hm | hm
    · exact h.apart q s hq g hg hm
    · exact h.hapart q g hg hm
  refine
  { h with
    slot := fun q => by
      by_cases e : q = s
      · subst e; rw [upd_same, upd_same]; exact hc
      · rw [upd_ne _ _ e, upd_ne _ _ e]; exact h.slot q
    boxes := fun q cs e => by
      by_cases eq : q = s
      · subst eq; exact h.boxes _ _ hcs
      · rw [upd_ne _ _ eq] at e; exact h.boxes q cs e
    crefs := fun q b e => by
      by_cases eq : q = s
      · subst eq; rw [upd_same, hrf] at e; cases e
      · rw [upd_ne _ _ eq] at e; exact hbox b (h.crefs q b e)
    nodup := fun q => by
      by_cases e : q = s
      · subst e; rw [upd_same]; exact hn
      · rw [upd_ne _ _ e]; exact h.nodup q
    apart := fun q r hqr g hg hg' => by
      by_cases e : q = s
      · subst e; rw [upd_same] at hg; rw [upd_ne _ _ (Ne.symm hqr)] at hg'; exact hout r (Ne.symm hqr) g hg' (hs g hg)
      · rw [upd_ne _ _ e] at hg
        by_cases e' : r = s
        · subst e'; rw [upd_same] at hg'; exact hout q e g hg (hs g hg')
        · rw [upd_ne _ _ e'] at hg'; exact h.apart q r hqr g hg hg'
    hnodup := hn'
    hapart := fun q g hg hm => by
      by_cases e : q = s
      · subst e; rw [upd_same] at hg; exact hap g hg hm
      · rw [upd_ne _ _ e] at hg; exact hout q e g hg (hs' g hm)
    range := fun q g hg => by
      by_cases e : q = s
      · subst e; rw [upd_same] at hg
        rcases hs g hg with h1 | h1
        · exact h.range _ g h1
        · exact h.hrange g h1
      · rw [upd_ne _ _ e] at hg; exact h.range q g hg
    hrange := fun g hg => by
      rcases hs' g hg with h1 | h1
      · exact h.range _ g h1
      · exact h.hrange g h1 }
/-- new blocks come to hand -/
theorem HSim.fresh (h : HSim P nt bx base St B hand σ a w) {bs : List Nat} (hn : bs.Nodup) (hr : ∀ g ∈ bs, base ≤ g ∧ g < w.heap.size) (ho : ∀ s, ∀ g ∈ B s, g ∉ bs) (hh : ∀ g ∈ hand, g ∉ bs) :
    HSim P nt bx base St B (hand ++ bs) σ a w :=
  { h with
    hnodup := List.nodup_append.2 ⟨h.hnodup, hn, fun x hx y hy e => by subst e; exact hh x hx hy⟩
    hapart := fun s g hg hm => by
      rcases List.mem_append.1 hm with hm | hm
      · exact h.hapart s g hg hm
      · exact ho s g hg hm
    hrange := fun g hg => by
      rcases List.mem_append.1 hg with hg | hg
      · exact h.hrange g hg
      · exact hr g hg }
end
end Go.Proofs.Ytkmkbpphdalgoaa
