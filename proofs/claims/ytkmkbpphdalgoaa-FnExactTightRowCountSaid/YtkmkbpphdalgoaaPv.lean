/-
  The pure machine, part 1: data values, how memory reads as them, and what a call owns. Over no program: definitions and plain lemmas; no conditions.
-/
import Derived.Test.YtkmkbpphdalgoaaOwn
namespace Go.Proofs.Ytkmkbpphdalgoaa
open Go.RowKit
set_option linter.unusedVariables false

/-- A datum: what a slot of a function holds, with memory read. -/
inductive V where
  | int (k : IntKind) (n : Int)
  | bool (b : Bool)
  | str (s : List UInt8)
  /-- a slice that the call owns and may append to: element type, elements, flat cells -/
  | own (e : TypeId) (n : Nat) (cs : List V)
  /-- a slice that is only read: elements, flat cells -/
  | dat (n : Nat) (cs : List V)
  /-- a slice that is only read, in blocks that stay as they are whole -/
  | arg (n : Nat) (cs : List V)
  /-- a slice that is only read, whose elements' memory is the call's own -/
  | via (n : Nat) (cs : List V)
  | agg (cs : List V)
  | tup (cs : List V)
  /-- the slot holds the address of a variable of the call's own -/
  | box (cs : List V)
  /-- a slice of the call's own that nobody else looks at: its cells may be written -/
  | uni (e : TypeId) (n : Nat) (cs : List V)
  /-- what that slot holds, once more -/
  | same (s : Nat)
  /-- the address of a cell of the variable in a slot -/
  | cref (s off : Nat)
  /-- the address of a cell in a row that is only read -/
  | adr (cs : List V) (off : Nat)
  | undef

/-- the value of one cell -/
def V.isCell : V → Bool
  | .int .. | .bool .. | .str .. | .own .. | .dat .. | .arg .. | .via .. => true
  | _ => false

/-- the cells of a type's values -/
def csz (P : Program) (e : TypeId) : Nat := ((P.info? e).map (·.size)).getD 0

/-- the longest slice or string of the machine -/
def lim : Nat := 1099511627776
theorem lim_max {n : Nat} (h : n ≤ lim) : n ≤ maxLen := by unfold lim at h; unfold maxLen; omega

section
variable (w : World) (St : Nat → Nat → Prop)
mutual
/-- The value of a cell reads as a datum; all the cells that are read are stable. -/
def Rd : V → Value → Prop
  | .int k n, v => v = .int k n
  | .bool b, v => v = .bool b
  | .str s, v => v = .string ⟨s.toArray⟩ ∧ s.length ≤ maxLen
  | .own _ n cs, v => n ≤ maxLen ∧ ∃ A c, v = .slice A n c ∧ n ≤ c ∧ (0 < n → ∃ b off, A = some ⟨b, off, none⟩ ∧ RdRow b off cs) ∧ (n = 0 → cs = [])
  | .dat n cs, v => n ≤ maxLen ∧ ∃ A c, v = .slice A n c ∧ n ≤ c ∧ (0 < n → ∃ b off, A = some ⟨b, off, none⟩ ∧ RdRow b off cs) ∧ (n = 0 → cs = [])
  | .via n cs, v => n ≤ maxLen ∧ ∃ A c, v = .slice A n c ∧ n ≤ c ∧ (0 < n → ∃ b off, A = some ⟨b, off, none⟩ ∧ RdRow b off cs) ∧ (n = 0 → cs = [])
  | .arg n cs, v => n ≤ maxLen ∧ ∃ A c, v = .slice A n c ∧ n ≤ c ∧ (0 < n → ∃ b off, A = some ⟨b, off, none⟩ ∧ (∀ o, St b o) ∧ RdRow b off cs) ∧ (n = 0 → cs = [])
  | _, _ => False
/-- The cells from (b, off) on read as the data. -/
def RdRow (b : Nat) : Nat → List V → Prop
  | _, [] => True
  | off, c :: cs => (St b off ∧ ∃ u, w.cell? ⟨b, off, none⟩ = some u ∧ Rd c u) ∧ RdRow b (off + 1) cs
end
/-- Values read as data, one by one. -/
def RdL : List V → List Value → Prop
  | [], us => us = []
  | c :: cs, us => ∃ u us', us = u :: us' ∧ Rd w St c u ∧ RdL cs us'
/-- an argument -/
def RdA : V → Value → Prop
  | .agg cs, v => ∃ us : List Value, v = .agg us.toArray ∧ RdL w St cs us
  | c, v => Rd w St c v
end

/-- stable cells are kept -/
def Ext (St : Nat → Nat → Prop) (w w' : World) : Prop := ∀ b o, St b o → w'.cell? ⟨b, o, none⟩ = w.cell? ⟨b, o, none⟩

section
variable {w w' : World} {St St' : Nat → Nat → Prop}
mutual
theorem Rd.mono (hs : ∀ b o, St b o → St' b o) (he : Ext St w w') : ∀ (c : V) {v : Value}, Rd w St c v → Rd w' St' c v
  | .int _ _, _, h => h
  | .bool _, _, h => h
  | .str _, _, h => h
  | .own _ _ cs, _, ⟨hn, A, c, e, hc, h, h0⟩ => ⟨hn, A, c, e, hc, fun hp => let ⟨b, off, ea, hr⟩ := h hp; ⟨b, off, ea, RdRow.mono hs he b off cs hr⟩, h0⟩
  | .dat _ cs, _, ⟨hn, A, c, e, hc, h, h0⟩ => ⟨hn, A, c, e, hc, fun hp => let ⟨b, off, ea, hr⟩ := h hp; ⟨b, off, ea, RdRow.mono hs he b off cs hr⟩, h0⟩
  | .via _ cs, _, ⟨hn, A, c, e, hc, h, h0⟩ => ⟨hn, A, c, e, hc, fun hp => let ⟨b, off, ea, hr⟩ := h hp; ⟨b, off, ea, RdRow.mono hs he b off cs hr⟩, h0⟩
  | .arg _ cs, _, ⟨hn, A, c, e, hc, h, h0⟩ => ⟨hn, A, c, e, hc, fun hp => let ⟨b, off, ea, hw, hr⟩ := h hp; ⟨b, off, ea, fun o => hs b o (hw o), RdRow.mono hs he b off cs hr⟩, h0⟩
  | .agg _, _, h => h.elim
  | .tup _, _, h => h.elim
  | .box _, _, h => h.elim
  | .uni _ _ _, _, h => h.elim
  | .same _, _, h => h.elim
  | .cref _ _, _, h => h.elim
  | .adr _ _, _, h => h.elim
  | .undef, _, h => h.elim
theorem RdRow.mono (hs : ∀ b o, St b o → St' b o) (he : Ext St w w') (b : Nat) : ∀ (off : Nat) (cs : List V), RdRow w St b off cs → RdRow w' St' b off cs
  | _, [], _ => trivial
  | off, c :: cs, ⟨⟨h1, u, hu, hr⟩, h2⟩ => ⟨⟨hs b off h1, u, (he b off h1).trans hu, Rd.mono hs he c hr⟩, RdRow.mono hs he b (off + 1) cs h2⟩
end
theorem RdL.mono (hs : ∀ b o, St b o → St' b o) (he : Ext St w w') : ∀ (cs : List V) {us : List Value}, RdL w St cs us → RdL w' St' cs us
  | [], _, h => h
  | c :: cs, _, ⟨u, us', e, h1, h2⟩ => ⟨u, us', e, Rd.mono hs he c h1, RdL.mono hs he cs h2⟩
theorem RdA.mono (hs : ∀ b o, St b o → St' b o) (he : Ext St w w') : ∀ (c : V) {v : Value}, RdA w St c v → RdA w' St' c v
  | .agg cs, _, ⟨us, e, h⟩ => ⟨us, e, h.mono hs he⟩
  | .int _ _, _, h => h
  | .bool _, _, h => h
  | .str _, _, h => h
  | .own _ _ _, _, h => Rd.mono hs he _ h
  | .dat _ _, _, h => Rd.mono hs he _ h
  | .via _ _, _, h => Rd.mono hs he _ h
  | .arg _ _, _, h => Rd.mono hs he _ h
  | .tup _, _, h => h.elim
  | .box _, _, h => h.elim
  | .uni _ _ _, _, h => h.elim
  | .same _, _, h => h.elim
  | .cref _ _, _, h => h.elim
  | .adr _ _, _, h => h.elim
  | .undef, _, h => h.elim
theorem Rd.oneCell {c : V} {v : Value} (h : Rd w St c v) : v.oneCell' = true := by
  cases c <;> simp only [Rd] at h
  · subst h; rfl
  · subst h; rfl
  · rw [h.1]; rfl
  all_goals obtain ⟨_, A, c, rfl, _⟩ := h; rfl
theorem Rd.isCell {c : V} {v : Value} (h : Rd w St c v) : c.isCell = true := by
  cases c <;> simp only [Rd] at h <;> rfl
theorem RdL.length : ∀ {cs : List V} {us : List Value}, RdL w St cs us → us.length = cs.length
  | [], _, h => by cases h; rfl
  | _ :: _, _, ⟨_, _, e, _, h⟩ => by rw [e, List.length_cons, List.length_cons, RdL.length h]
theorem RdRow.at_ {b : Nat} : ∀ {cs : List V} {off : Nat}, RdRow w St b off cs → ∀ (j : Nat) (c : V), cs[j]? = some c → St b (off + j) ∧ ∃ u, w.cell? ⟨b, off + j, none⟩ = some u ∧ Rd w St c u
  | [], _, _, j, c, h => by simp at h
  | d :: cs, off, h, 0, c, e => by simp only [List.getElem?_cons_zero, Option.some.injEq] at e; subst e; exact h.1
  | d :: cs, off, h, j + 1, c, e => by
    have h2 : RdRow w St b (off + 1) cs := h.2
    have := RdRow.at_ h2 j c (by simpa using e)
    rw [show off + (j + 1) = off + 1 + j by omega]; exact this
theorem RdRow.drop {b : Nat} : ∀ {cs : List V} {off : Nat} (k : Nat), RdRow w St b off cs → RdRow w St b (off + k) (cs.drop k)
  | [], _, k, _ => by simp [RdRow]
  | _ :: _, _, 0, h => by simpa using h
  | _ :: cs, off, k + 1, h => by
    have := RdRow.drop (cs := cs) (off := off + 1) k h.2
    rw [show off + (k + 1) = off + 1 + k by omega]; simpa using this
theorem RdRow.take {b : Nat} : ∀ {cs : List V} {off : Nat} (k : Nat), RdRow w St b off cs → RdRow w St b off (cs.take k)
  | [], _, k, _ => by simp [RdRow]
  | _ :: _, _, 0, h => by simp [RdRow]
  | _ :: cs, off, k + 1, h => by rw [List.take_succ_cons]; exact ⟨h.1, RdRow.take (cs := cs) k h.2⟩
theorem RdRow.mk {b : Nat} : ∀ {cs : List V} {off : Nat}, (∀ (j : Nat) (c : V), cs[j]? = some c → St b (off + j) ∧ ∃ u, w.cell? ⟨b, off + j, none⟩ = some u ∧ Rd w St c u) → RdRow w St b off cs
  | [], _, _ => trivial
  | d :: cs, off, h => ⟨h 0 d rfl, RdRow.mk fun j c e => by
      have := h (j + 1) c (by simpa using e)
      rw [show off + 1 + j = off + (j + 1) by omega]; exact this⟩
/-- the cells' values -/
theorem RdRow.list {b : Nat} : ∀ {cs : List V} {off : Nat}, RdRow w St b off cs → ∃ us : List Value, RdL w St cs us ∧ ∀ (j : Nat) (u : Value), us[j]? = some u → w.cell? ⟨b, off + j, none⟩ = some u
  | [], _, _ => ⟨[], rfl, by simp⟩
  | c :: cs, off, ⟨⟨_, u, hu, hr⟩, h2⟩ => by
    obtain ⟨us, h3, h4⟩ := RdRow.list h2
    refine ⟨u :: us, ⟨u, us, rfl, hr, h3⟩, fun j x hx => ?_⟩
    cases j with
    | zero => simp only [List.getElem?_cons_zero, Option.some.injEq] at hx; subst hx; exact hu
    | succ j => rw [show off + (j + 1) = off + 1 + j by omega]; exact h4 j x (by simpa using hx)
theorem RdL.get : ∀ {cs : List V} {us : List Value}, RdL w St cs us → ∀ (j : Nat) (c : V), cs[j]? = some c → ∃ u, us[j]? = some u ∧ Rd w St c u
  | [], _, _, j, c, e => by simp at e
  | _ :: _, _, ⟨u, us', e, h1, h2⟩, 0, c, ec => by simp only [List.getElem?_cons_zero, Option.some.injEq] at ec; subst ec; exact ⟨u, by rw [e]; rfl, h1⟩
  | _ :: _, _, ⟨u, us', e, h1, h2⟩, j + 1, c, ec => by rw [e]; simpa using RdL.get h2 j c (by simpa using ec)
theorem RdL.oneCell : ∀ {cs : List V} {us : List Value}, RdL w St cs us → ∀ u ∈ us, u.oneCell' = true
  | [], _, h, u, hu => by rw [show _ = [] from h] at hu; simp at hu
  | c :: cs, _, ⟨x, us', e, h1, h2⟩, u, hu => by
    rw [e] at hu
    rcases List.mem_cons.1 hu with rfl | hu
    · exact h1.oneCell
    · exact RdL.oneCell h2 u hu
end

/-! ### what a call owns -/
section
variable (P : Program) (w : World) (St : Nat → Nat → Prop)
mutual
/-- The value is the datum; what it owns lies in the blocks bs. -/
def Ow : V → Value → List Nat → Prop
  | .int k n, v, bs => bs = [] ∧ Rd w St (.int k n) v
  | .bool b, v, bs => bs = [] ∧ Rd w St (.bool b) v
  | .str s, v, bs => bs = [] ∧ Rd w St (.str s) v
  | .dat n cs, v, bs => bs = [] ∧ Rd w St (.dat n cs) v
  | .arg n cs, v, bs => bs = [] ∧ Rd w St (.arg n cs) v
  | .via n cs, v, bs => n ≤ maxLen ∧ ∃ A c, ∃ xs : List Value, v = .slice A n c ∧ n ≤ c ∧ (0 < n → ∃ b off, A = some ⟨b, off, none⟩ ∧ ∀ (j : Nat) (u : Value), xs[j]? = some u → St b (off + j) ∧ w.cell? ⟨b, off + j, none⟩ = some u) ∧ OwRow cs xs bs ∧ (n = 0 → cs = [])
  | .own e n cs, v, bs => n ≤ lim ∧ ∃ xs bs', w.ownsRow 0 e (csz P e) v n xs ∧ OwRow cs xs bs' ∧ bs = v.ownBlock.toList ++ bs' ∧ (∀ g, v.ownBlock = some g → ∀ o, St g o ↔ o < n * csz P e) ∧ (n = 0 → cs = [])
  | .agg cs, v, bs => ∃ us : List Value, v = .agg us.toArray ∧ OwRow cs us bs
  | .tup cs, v, bs => ∃ us : List Value, v = .tuple us.toArray ∧ OwTup cs us bs
  | _, _, _ => False
/-- cells -/
def OwRow : List V → List Value → List Nat → Prop
  | [], us, bs => us = [] ∧ bs = []
  | c :: cs, us, bs => ∃ u us' b1 b2, us = u :: us' ∧ bs = b1 ++ b2 ∧ c.isCell = true ∧ Ow c u b1 ∧ OwRow cs us' b2
/-- results -/
def OwTup : List V → List Value → List Nat → Prop
  | [], us, bs => us = [] ∧ bs = []
  | c :: cs, us, bs => ∃ u us' b1 b2, us = u :: us' ∧ bs = b1 ++ b2 ∧ Ow c u b1 ∧ OwTup cs us' b2
end
end

section
variable {P : Program} {w w' : World} {St St' : Nat → Nat → Prop}
mutual
theorem Ow.mono (hs : ∀ b o, St b o → St' b o) (he : Ext St w w') : ∀ (c : V) {v : Value} {bs : List Nat}, Ow P w St c v bs → (∀ g ∈ bs, w'.heap[g]? = w.heap[g]? ∧ ∀ o, St' g o ↔ St g o) → Ow P w' St' c v bs
  | .int _ _, _, _, ⟨h1, h2⟩, _ => ⟨h1, h2⟩
  | .bool _, _, _, ⟨h1, h2⟩, _ => ⟨h1, h2⟩
  | .str _, _, _, ⟨h1, h2⟩, _ => ⟨h1, h2⟩
  | .dat _ _, _, _, ⟨h1, h2⟩, _ => ⟨h1, h2.mono hs he⟩
  | .arg _ _, _, _, ⟨h1, h2⟩, _ => ⟨h1, h2.mono hs he⟩
  | .via _ cs, _, _, ⟨hn, A, c, xs, e, hc, h, hr, h0⟩, hb => ⟨hn, A, c, xs, e, hc, fun hp => let ⟨b, off, ea, hx⟩ := h hp; ⟨b, off, ea, fun j u hu => ⟨hs _ _ (hx j u hu).1, (he _ _ (hx j u hu).1).trans (hx j u hu).2⟩⟩, OwRow.mono hs he cs hr hb, h0⟩
  | .own e n cs, v, bs, ⟨hn, xs, bs', h1, h2, h3, h4, h5⟩, hb => by
    refine ⟨hn, xs, bs', ?_, OwRow.mono hs he cs h2 (fun g hg => hb g (by rw [h3]; exact List.mem_append_right _ hg)), h3, fun g hg o => ?_, h5⟩
    · refine ⟨h1.1, ?_⟩
      rcases h1.2 with h | ⟨g, cap, cur, rfl, hg, hh, r⟩
      · exact .inl h
      · exact .inr ⟨g, cap, cur, rfl, hg, by rw [(hb g (by rw [h3]; simp [Value.ownBlock])).1]; exact hh, r⟩
    · rw [(hb g (by rw [h3, hg]; simp)).2 o]; exact h4 g hg o
  | .agg cs, _, _, ⟨us, e, h⟩, hb => ⟨us, e, OwRow.mono hs he cs h hb⟩
  | .tup cs, _, _, ⟨us, e, h⟩, hb => ⟨us, e, OwTup.mono hs he cs h hb⟩
  | .box _, _, _, h, _ => h.elim
  | .uni _ _ _, _, _, h, _ => h.elim
  | .same _, _, _, h, _ => h.elim
  | .cref _ _, _, _, h, _ => h.elim
  | .adr _ _, _, _, h, _ => h.elim
  | .undef, _, _, h, _ => h.elim
theorem OwRow.mono (hs : ∀ b o, St b o → St' b o) (he : Ext St w w') : ∀ (cs : List V) {us : List Value} {bs : List Nat}, OwRow P w St cs us bs → (∀ g ∈ bs, w'.heap[g]? = w.heap[g]? ∧ ∀ o, St' g o ↔ St g o) → OwRow P w' St' cs us bs
  | [], _, _, h, _ => h
  | c :: cs, _, _, ⟨u, us', b1, b2, e1, e2, hc, h1, h2⟩, hb =>
    ⟨u, us', b1, b2, e1, e2, hc, Ow.mono hs he c h1 (fun g hg => hb g (by rw [e2]; exact List.mem_append_left _ hg)), OwRow.mono hs he cs h2 (fun g hg => hb g (by rw [e2]; exact List.mem_append_right _ hg))⟩
theorem OwTup.mono (hs : ∀ b o, St b o → St' b o) (he : Ext St w w') : ∀ (cs : List V) {us : List Value} {bs : List Nat}, OwTup P w St cs us bs → (∀ g ∈ bs, w'.heap[g]? = w.heap[g]? ∧ ∀ o, St' g o ↔ St g o) → OwTup P w' St' cs us bs
  | [], _, _, h, _ => h
  | c :: cs, _, _, ⟨u, us', b1, b2, e1, e2, h1, h2⟩, hb =>
    ⟨u, us', b1, b2, e1, e2, Ow.mono hs he c h1 (fun g hg => hb g (by rw [e2]; exact List.mem_append_left _ hg)), OwTup.mono hs he cs h2 (fun g hg => hb g (by rw [e2]; exact List.mem_append_right _ hg))⟩
end
mutual
/-- what is owned is read -/
theorem Ow.rd : ∀ (c : V) {v : Value} {bs : List Nat}, Ow P w St c v bs → c.isCell = true → Rd w St c v
  | .int _ _, _, _, h, _ => h.2
  | .bool _, _, _, h, _ => h.2
  | .str _, _, _, h, _ => h.2
  | .dat _ _, _, _, h, _ => h.2
  | .arg _ _, _, _, h, _ => h.2
  | .via n cs, _, _, ⟨hn, A, c, xs, e, hc, h, hr, h0⟩, _ => ⟨hn, A, c, e, hc, fun hp => let ⟨b, off, ea, hx⟩ := h hp; ⟨b, off, ea, OwRow.rdRow cs off hr hx⟩, h0⟩
  | .own e n cs, v, bs, ⟨hn, xs, bs', h1, h2, h3, h4, h5⟩, _ => by
    have hl := h1.1
    rcases h1.2 with ⟨rfl, rfl⟩ | ⟨g, cap, cur, rfl, hg, hh, hc, hm, hsz, hx⟩
    · exact ⟨lim_max hn, none, 0, rfl, Nat.le_refl _, fun h => absurd h (by omega), h5⟩
    · refine ⟨lim_max hn, _, cap, rfl, hc, fun _ => ⟨g, 0, rfl, ?_⟩, h5⟩
      have hst := h4 g rfl
      have hcell : ∀ (j : Nat) (u : Value), xs[j]? = some u → St g j ∧ w.cell? ⟨g, j, none⟩ = some u := by
        intro j u hu
        have hj : j < n * csz P e := by
          rw [← hl]
          rcases Nat.lt_or_ge j xs.length with h | h
          · exact h
          · rw [List.getElem?_eq_none h] at hu; cases hu
        refine ⟨(hst j).2 hj, ?_⟩
        simp only [World.cell?, hh]
        rw [← hx, List.getElem?_take, if_pos hj] at hu
        simpa using hu
      exact OwRow.rdRow cs 0 h2 (fun j u hu => by simpa using hcell j u hu)
  | .agg _, _, _, _, h => by cases h
  | .tup _, _, _, _, h => by cases h
  | .box _, _, _, h, _ => h.elim
  | .uni _ _ _, _, _, h, _ => h.elim
  | .same _, _, _, h, _ => h.elim
  | .cref _ _, _, _, h, _ => h.elim
  | .adr _ _, _, _, h, _ => h.elim
  | .undef, _, _, h, _ => h.elim
theorem OwRow.rdRow {g : Nat} : ∀ (cs : List V) (off : Nat) {us : List Value} {bs : List Nat}, OwRow P w St cs us bs → (∀ (j : Nat) (u : Value), us[j]? = some u → St g (off + j) ∧ w.cell? ⟨g, off + j, none⟩ = some u) → RdRow w St g off cs
  | [], _, _, _, _, _ => trivial
  | c :: cs, off, _, _, ⟨u, us', b1, b2, e1, e2, hc, h1, h2⟩, hu => by
    have h0 := hu 0 u (by rw [e1]; rfl)
    refine ⟨⟨by simpa using h0.1, u, by simpa using h0.2, Ow.rd c h1 hc⟩, OwRow.rdRow cs (off + 1) h2 (fun j x hx => ?_)⟩
    have := hu (j + 1) x (by rw [e1]; simpa using hx)
    rw [show off + 1 + j = off + (j + 1) by omega]; exact this
end
theorem OwRow.rdL : ∀ (cs : List V) {us : List Value} {bs : List Nat}, OwRow P w St cs us bs → RdL w St cs us
  | [], _, _, h => h.1
  | _ :: cs, _, _, ⟨u, us', _, _, e1, _, hc, h1, h2⟩ => ⟨u, us', e1, Ow.rd _ h1 hc, OwRow.rdL cs h2⟩
theorem OwRow.length {cs : List V} {us : List Value} {bs : List Nat} (h : OwRow P w St cs us bs) : us.length = cs.length := (OwRow.rdL cs h).length
end

/-! ### forgetting what is owned -/
def dg1 : V → V
  | .own _ n cs => .dat n cs
  | .via n cs => .dat n cs
  | c => c
def dg2 : V → V
  | .agg cs => .agg (cs.map dg1)
  | c => dg1 c
/-- the same datum, only read -/
def dg : V → V
  | .tup cs => .tup (cs.map dg2)
  | c => dg2 c
section
variable {P : Program} {w w' : World} {St St' : Nat → Nat → Prop}
theorem isCell_dg1 {c : V} (h : c.isCell = true) : (dg1 c).isCell = true := by cases c <;> first | rfl | exact h
theorem Rd.deg1 {c : V} {v : Value} (h : Rd w St c v) : Rd w St (dg1 c) v := by cases c <;> exact h
theorem Ow.deg1 {c : V} {v : Value} {bs : List Nat} (h : Ow P w St c v bs) (hc : c.isCell = true) : Ow P w St (dg1 c) v [] := by
  have hr := (Ow.rd c h hc).deg1
  cases c <;> first | exact ⟨rfl, hr⟩ | cases hc
theorem OwRow.deg1 : ∀ (cs : List V) {us : List Value} {bs : List Nat}, OwRow P w St cs us bs → OwRow P w St (cs.map dg1) us []
  | [], _, _, h => ⟨h.1, rfl⟩
  | c :: cs, _, _, ⟨u, us', b1, b2, e1, e2, hc, h1, h2⟩ => ⟨u, us', [], [], e1, rfl, isCell_dg1 hc, h1.deg1 hc, OwRow.deg1 cs h2⟩
theorem Ow.deg2 {c : V} {v : Value} {bs : List Nat} (h : Ow P w St c v bs) (hc : c.isCell = true ∨ ∃ cs, c = .agg cs) : Ow P w St (dg2 c) v [] := by
  rcases hc with hc | ⟨cs, rfl⟩
  · have : dg2 c = dg1 c := by cases c <;> first | rfl | cases hc
    rw [this]; exact h.deg1 hc
  · obtain ⟨us, e, h⟩ := h
    exact ⟨us, e, h.deg1⟩
/-- a cell or a struct -/
def V.isArg : V → Bool
  | .agg _ => true
  | c => c.isCell
theorem isArg_or {c : V} (h : c.isArg = true) : c.isCell = true ∨ ∃ cs, c = .agg cs := by
  cases c <;> first | exact .inl h | exact .inr ⟨_, rfl⟩
theorem Ow.argd {c : V} {v : Value} {bs : List Nat} (h : Ow P w St c v bs) (hc : c.isArg = true) : Ow P w St (dg2 c) v [] := h.deg2 (isArg_or hc)
theorem Ow.rda {c : V} {v : Value} {bs : List Nat} (h : Ow P w St c v bs) (hc : c.isArg = true) : RdA w St c v := by
  cases c <;> first | exact Ow.rd _ h hc | cases hc | skip
  obtain ⟨us, e, h⟩ := h
  exact ⟨us, e, h.rdL⟩
theorem OwTup.deg2 : ∀ (cs : List V) {us : List Value} {bs : List Nat}, OwTup P w St cs us bs → cs.all V.isArg = true → OwTup P w St (cs.map dg2) us []
  | [], _, _, h, _ => ⟨h.1, rfl⟩
  | c :: cs, _, _, ⟨u, us', b1, b2, e1, e2, h1, h2⟩, hc => by
    simp only [List.all_cons, Bool.and_eq_true] at hc
    exact ⟨u, us', [], [], e1, rfl, h1.argd hc.1, OwTup.deg2 cs h2 hc.2⟩
/-- a value that can be moved -/
def V.isVal : V → Bool
  | .tup cs => cs.all V.isArg
  | c => c.isArg
theorem Ow.deg {c : V} {v : Value} {bs : List Nat} (h : Ow P w St c v bs) (hc : c.isVal = true) : Ow P w St (dg c) v [] := by
  cases c <;> first | exact h.argd hc | cases hc | skip
  obtain ⟨us, e, h⟩ := h
  exact ⟨us, e, OwTup.deg2 _ h hc⟩
theorem Ow.toRd {c : V} {v : Value} (h : Rd w St (dg1 c) v) : Ow P w St (dg1 c) v [] := by
  cases c <;> first | exact ⟨rfl, h⟩ | exact h.elim
theorem OwRow.ofRd : ∀ (cs : List V) {us : List Value}, RdL w St cs us → OwRow P w St (cs.map dg1) us []
  | [], _, h => ⟨h, rfl⟩
  | c :: cs, _, ⟨u, us', e, h1, h2⟩ => ⟨u, us', [], [], e, rfl, isCell_dg1 h1.isCell, Ow.toRd h1.deg1, OwRow.ofRd cs h2⟩
end
mutual
/-- the datum alone, as an argument is handed on -/
def er : V → V
  | .own _ n cs => .dat n (erL cs)
  | .dat n cs => .dat n (erL cs)
  | .arg n cs => .dat n (erL cs)
  | .via n cs => .dat n (erL cs)
  | .agg cs => .agg (erL cs)
  | .int k n => .int k n
  | .bool b => .bool b
  | .str s => .str s
  | _ => .undef
def erL : List V → List V
  | [] => []
  | c :: cs => er c :: erL cs
end
section
variable {P : Program} {w w' : World} {St St' : Nat → Nat → Prop}
theorem erL_nil {cs : List V} (h : cs = []) : erL cs = [] := by subst h; rfl
mutual
theorem Rd.erase : ∀ (c : V) {v : Value}, Rd w St c v → Rd w St (er c) v
  | .int _ _, _, h => h
  | .bool _, _, h => h
  | .str _, _, h => h
  | .own _ _ cs, _, ⟨hn, A, c, e, hc, h, h0⟩ => ⟨hn, A, c, e, hc, fun hp => let ⟨b, off, ea, hr⟩ := h hp; ⟨b, off, ea, RdRow.erase b off cs hr⟩, fun hz => erL_nil (h0 hz)⟩
  | .dat _ cs, _, ⟨hn, A, c, e, hc, h, h0⟩ => ⟨hn, A, c, e, hc, fun hp => let ⟨b, off, ea, hr⟩ := h hp; ⟨b, off, ea, RdRow.erase b off cs hr⟩, fun hz => erL_nil (h0 hz)⟩
  | .via _ cs, _, ⟨hn, A, c, e, hc, h, h0⟩ => ⟨hn, A, c, e, hc, fun hp => let ⟨b, off, ea, hr⟩ := h hp; ⟨b, off, ea, RdRow.erase b off cs hr⟩, fun hz => erL_nil (h0 hz)⟩
  | .arg _ cs, _, ⟨hn, A, c, e, hc, h, h0⟩ => ⟨hn, A, c, e, hc, fun hp => let ⟨b, off, ea, _, hr⟩ := h hp; ⟨b, off, ea, RdRow.erase b off cs hr⟩, fun hz => erL_nil (h0 hz)⟩
  | .agg _, _, h => h.elim
  | .tup _, _, h => h.elim
  | .box _, _, h => h.elim
  | .uni _ _ _, _, h => h.elim
  | .same _, _, h => h.elim
  | .cref _ _, _, h => h.elim
  | .adr _ _, _, h => h.elim
  | .undef, _, h => h.elim
theorem RdRow.erase (b : Nat) : ∀ (off : Nat) (cs : List V), RdRow w St b off cs → RdRow w St b off (erL cs)
  | _, [], _ => trivial
  | off, c :: cs, ⟨⟨h1, u, hu, hr⟩, h2⟩ => ⟨⟨h1, u, hu, Rd.erase c hr⟩, RdRow.erase b (off + 1) cs h2⟩
end
theorem RdL.erase : ∀ (cs : List V) {us : List Value}, RdL w St cs us → RdL w St (erL cs) us
  | [], _, h => h
  | c :: cs, _, ⟨u, us', e, h1, h2⟩ => ⟨u, us', e, Rd.erase c h1, RdL.erase cs h2⟩
theorem RdA.erase {c : V} {v : Value} (h : RdA w St c v) : RdA w St (er c) v := by
  cases c <;> first | exact Rd.erase _ h | exact h.elim | skip
  obtain ⟨us, e, h⟩ := h
  exact ⟨us, e, h.erase⟩
end
end Go.Proofs.Ytkmkbpphdalgoaa
