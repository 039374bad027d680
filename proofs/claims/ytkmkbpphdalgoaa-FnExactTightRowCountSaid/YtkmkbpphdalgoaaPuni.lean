/-
  The pure machine, part 7b: slots that are forgotten; slices that may be written: made, handed on, no longer written. Over no program; no conditions.
-/
import Derived.Test.YtkmkbpphdalgoaaPeff3
namespace Go.Proofs.Ytkmkbpphdalgoaa
open Go.RowKit
set_option linter.unusedVariables false
section
variable {P : Program} {nt base : Nat} {bx : List Nat} {St St' St0 : Nat → Nat → Prop} {B : Nat → List Nat} {hand : List Nat} {σ σ' : PS} {a : Act} {w w' w0 : World} {K : PS → Prop} {Q : Exit → Act → World → Prop} {o : Oper}
/-- some slots are forgotten, and what refers to them -/
def kill (D : List Nat) (σ : PS) : PS := fun s => if D.contains s = true then .undef else match refOf (σ s) with
  | some b => if D.contains b = true then .undef else σ s
  | none => σ s
theorem kill_or (D : List Nat) (σ : PS) (s : Nat) : kill D σ s = .undef ∨ kill D σ s = σ s := by
  unfold kill
  split
  · exact .inl rfl
  · split
    · split
      · exact .inl rfl
      · exact .inr rfl
    · exact .inr rfl
theorem kill_at {D : List Nat} {σ : PS} {s : Nat} (h : D.contains s = true) : kill D σ s = .undef := by unfold kill; rw [if_pos h]
theorem kill_ref {D : List Nat} {σ : PS} {s b : Nat} (h : refOf (kill D σ s) = some b) : refOf (σ s) = some b ∧ D.contains b = false := by
  rcases kill_or D σ s with e | e
  · rw [e] at h; cases h
  · have h2 := h
    rw [e] at h2
    refine ⟨h2, ?_⟩
    unfold kill at h
    split at h
    · cases h
    · rw [h2] at h
      simp only at h
      split at h
      · cases h
      · rename_i hx; simpa using hx
theorem kill_keep {D : List Nat} {σ : PS} {s : Nat} {cs : List V} (h : bxOf (σ s) = some cs) (hd : D.contains s = false) : kill D σ s = σ s := by
  have hr : refOf (σ s) = none := by cases hs : σ s <;> rw [hs] at h <;> first | rfl | cases h
  unfold kill
  rw [if_neg (by rw [hd]; simp), hr]
theorem hsim_kill (D : List Nat) (h : HSim P nt bx base St B hand σ a w) : ∃ B', HSim P nt bx base St B' hand (kill D σ) a w ∧ (∀ s, D.contains s = true → B' s = []) ∧ ∀ s, B' s = [] ∨ B' s = B s := by
  have hex : ∀ s, ∃ b : List Nat, SlotR P w St (tm a) (kill D σ s) (tm a s) b ∧ (b = [] ∨ b = B s) ∧ (D.contains s = true → b = []) := by
    intro s
    rcases kill_or D σ s with e | e
    · exact ⟨[], by rw [e]; rfl, .inl rfl, fun _ => rfl⟩
    · by_cases hd : D.contains s = true
      · exact ⟨[], by rw [kill_at hd]; rfl, .inl rfl, fun _ => rfl⟩
      · exact ⟨B s, by rw [e]; exact h.slot s, .inr rfl, fun e => absurd e hd⟩
  obtain ⟨B', hB⟩ := Classical.axiomOfChoice hex
  have h1 := fun s => (hB s).1
  have h2 := fun s => (hB s).2.1
  have hsub : ∀ s, ∀ g ∈ B' s, g ∈ B s := by
    intro s g hg
    rcases h2 s with e | e
    · rw [e] at hg; simp at hg
    · rw [e] at hg; exact hg
  refine ⟨B', ?_, fun s => (hB s).2.2, h2⟩
  exact
  { h with
    slot := h1
    boxes := fun s cs e => by
      rcases kill_or D σ s with e' | e'
      · rw [e'] at e; cases e
      · rw [e'] at e; exact h.boxes s cs e
    crefs := fun s b e => by
      obtain ⟨e1, e2⟩ := kill_ref e
      obtain ⟨cs, hcs⟩ := h.crefs s b e1
      exact ⟨cs, by rw [kill_keep hcs e2]; exact hcs⟩
    nodup := fun s => by
      rcases h2 s with e | e
      · rw [e]; exact List.nodup_nil
      · rw [e]; exact h.nodup s
    apart := fun s t hst g hg hg' => h.apart s t hst g (hsub s g hg) (hsub t g hg')
    hapart := fun s g hg => h.hapart s g (hsub s g hg)
    range := fun s g hg => h.range s g (hsub s g hg) }
theorem rel_kill {base : Nat} {St0 : Nat → Nat → Prop} {w0 w : World} {a : Act} (D : List Nat) (hr : Rel P nt bx base St0 w0 σ a w) : Rel P nt bx base St0 w0 (kill D σ) a w := by
  obtain ⟨St, B, h, hb, hst, hz⟩ := hr
  obtain ⟨B', h', _⟩ := hsim_kill D h
  exact ⟨St, B', h', hb, hst, hz⟩
/-- a slot gives up all that it holds, and is forgotten -/
theorem HSim.giveUp (h : HSim P nt bx base St B hand σ a w) (p : Nat) : ∃ B', HSim P nt bx base St B' (hand ++ B p) (kill [p] σ) a w ∧ B' p = [] := by
  obtain ⟨B', h', h1, h2⟩ := hsim_kill [p] h
  have hsub : ∀ s, ∀ g ∈ B' s, g ∈ B s ∧ s ≠ p := by
    intro s g hg
    have hne : s ≠ p := fun e => by subst e; rw [h1 s (by simp)] at hg; simp at hg
    rcases h2 s with e | e
    · rw [e] at hg; simp at hg
    · rw [e] at hg; exact ⟨hg, hne⟩
  exact ⟨B',
  { h' with
    hnodup := List.nodup_append.2 ⟨h.hnodup, h.nodup p, fun x hx y hy e => by subst e; exact h.hapart p x hy hx⟩
    hapart := fun s g hg hm => by
      obtain ⟨g1, g2⟩ := hsub s g hg
      rcases List.mem_append.1 hm with hm | hm
      · exact h.hapart s g g1 hm
      · exact h.apart s p g2 g g1 hm
    hrange := fun g hg => by
      rcases List.mem_append.1 hg with hg | hg
      · exact h.hrange g hg
      · exact h.range p g hg }, h1 p (by simp)⟩
/-- a slot's value is seen otherwise -/
theorem HSim.swap (h : HSim P nt bx base St B hand σ a w) {s : Nat} (hx : s ∈ bx) (hno : ∀ q, refOf (σ q) ≠ some s) (hB : B s = []) {c : V} {bs : List Nat} (hc : SlotR P w St (tm a) c (tm a s) bs) (hrf : refOf c = none) (hn : bs.Nodup) (hs : ∀ g ∈ bs, g ∈ hand) :
    HSim P nt bx base St (upd B s bs) [] (upd σ s c) a w := by
  refine
  { h with
    slot := fun q => by
      by_cases e : q = s
      · subst e; rw [upd_same, upd_same]; exact hc
      · rw [upd_ne _ _ e, upd_ne _ _ e]; exact h.slot q
    boxes := fun q cs e => by
      by_cases eq : q = s
      · subst eq; exact hx
      · rw [upd_ne _ _ eq] at e; exact h.boxes q cs e
    crefs := fun q b e => by
      by_cases eq : q = s
      · subst eq; rw [upd_same, hrf] at e; cases e
      · rw [upd_ne _ _ eq] at e
        obtain ⟨cs, hcs⟩ := h.crefs q b e
        exact ⟨cs, by rw [upd_ne _ _ (fun eb => by subst eb; exact hno q e)]; exact hcs⟩
    nodup := fun q => by
      by_cases e : q = s
      · subst e; rw [upd_same]; exact hn
      · rw [upd_ne _ _ e]; exact h.nodup q
    apart := fun q r hqr g hg hg' => by
      by_cases e : q = s
      · subst e; rw [upd_same] at hg; rw [upd_ne _ _ (Ne.symm hqr)] at hg'; exact h.hapart r g hg' (hs g hg)
      · rw [upd_ne _ _ e] at hg
        by_cases e' : r = s
        · subst e'; rw [upd_same] at hg'; exact h.hapart q g hg (hs g hg')
        · rw [upd_ne _ _ e'] at hg'; exact h.apart q r hqr g hg hg'
    hnodup := List.nodup_nil
    hapart := fun _ _ _ => by simp
    range := fun q g hg => by
      by_cases e : q = s
      · subst e; rw [upd_same] at hg; exact h.hrange g (hs g hg)
      · rw [upd_ne _ _ e] at hg; exact h.range q g hg
    hrange := by simp }
/-- a slice that is no longer written -/
theorem rel_freeze {s : Nat} {e : TypeId} {n : Nat} {cs : List V} (hs : σ s = .uni e n cs) (hr : Rel P nt bx base St0 w0 σ a w) : Rel P nt bx base St0 w0 (upd (kill [s] σ) s (.own e n cs)) a w := by
  obtain ⟨St, B, h, hb, hst, hz⟩ := hr
  have hsl := h.slot s
  rw [hs] at hsl
  obtain ⟨g, bs', arr, e1, e2, h1, hB, h2, hl, hlen⟩ := hsl
  have hx : s ∈ bx := h.boxes s cs (by rw [hs]; rfl)
  have hrg := h.range s g (by rw [hB]; simp)
  obtain ⟨B1, h3, hB1⟩ := h.giveUp s
  rw [List.nil_append, hB] at h3
  -- the cells become stable
  have hnd : (g :: bs').Nodup := by have := h.nodup s; rw [hB] at this; exact this
  have hnd2 := List.nodup_cons.1 hnd
  have hgB : ∀ q, ∀ k ∈ B1 q, k ≠ g := fun q k hk e => h3.hapart q k hk (by rw [e]; simp)
  have hsame : ∀ k, k ≠ g → ∀ o', (St k o' ∨ (k = g ∧ o' < n * csz P e)) ↔ St k o' := fun k hk o' => ⟨fun hh => hh.elim id (fun hh => absurd hh.1 hk), .inl⟩
  have h4 := h3.world (w' := w) (St' := fun b o' => St b o' ∨ (b = g ∧ o' < n * csz P e)) (fun b o' hs => .inl hs) (fun _ _ _ => rfl) (Nat.le_refl _) (fun q k hk => ⟨rfl, hsame k (hgB q k hk)⟩) (fun b o' hs => by
    rcases hs with hs | hs
    · exact h.st b o' hs
    · rw [hs.1]; exact hrg.2)
  have hrow := OwRow.mono (w' := w) (St' := fun b o' => St b o' ∨ (b = g ∧ o' < n * csz P e)) (fun b o' hs => .inl hs) (fun _ _ _ => rfl) cs h1 (fun k hk => ⟨rfl, hsame k (fun e => hnd2.1 (e ▸ hk))⟩)
  have harr : arr.size = n * csz P e := by rw [← Array.length_toList, h1.length, hlen]
  have hv : Ow P w (fun b o' => St b o' ∨ (b = g ∧ o' < n * csz P e)) (.own e n cs) (tm a s) (g :: bs') := by
    refine ⟨hl, arr.toList, bs', ?_, hrow, by rw [e1]; rfl, fun k hk o' => ?_, fun h0 => ?_⟩
    · rw [e1]
      refine ⟨by rw [Array.length_toList, harr], .inr ⟨g, n, arr, rfl, Nat.zero_le _, e2, Nat.le_refl _, ?_, harr, ?_⟩⟩
      · unfold maxLen; unfold lim at hl; omega
      · rw [← harr, ← Array.length_toList, List.take_length]
    · rw [e1] at hk
      simp only [Value.ownBlock, Option.some.injEq] at hk
      subst hk
      exact ⟨fun hh => hh.elim (fun hh => absurd hh (h2 o')) (·.2), fun hh => .inr ⟨rfl, hh⟩⟩
    · subst h0; exact List.eq_nil_of_length_eq_zero (by simpa using hlen)
  have hno : ∀ q, refOf (kill [s] σ q) ≠ some s := fun q hq => by have := (kill_ref hq).2; simp at this
  refine ⟨_, _, h4.swap hx hno hB1 hv.slot rfl hnd (fun k hk => hk), hb, ?_, hz⟩
  intro b o' hlt
  rw [← hst b o' hlt]
  exact hsame b (by omega) o'
/-- a new slice that may be written -/
theorem opS_makeU {tb : Tb} (htb : TbOk P tb) {t e : TypeId} {es eb : Nat} {ez : List V} {x y : Operand} {d n : Nat} {k k' : IntKind} (hop : o.op = .makeSlice t x y) (ht : tb t = some (.sl e es eb ez)) (h1 : opV σ x = .int k n) (h2 : opV σ y = .int k' n) (hn : n ≤ lim)
    (ho : o.dst = some d) (hd : d < nt) (hx : d ∈ bx) (hold : bxOf (σ d) = none) (hk : K (upd σ d (.uni e n (zrow ez es n)))) : OpS P nt bx base St0 w0 o σ K := by
  rintro a w Q ⟨St, B, h, hb, hst, hz⟩
  have hcsz := csz_of (htb _ _ ht)
  obtain ⟨i, j, zv, hi, _, _, hu, hj, hjz, hes, heb, hzl, hlz, hes0, heb0, heb1⟩ := htb _ _ ht
  have hrow := zrow_ok (hzl w St) hes0 hlz n
  have e1 : a.eval x = .int k n := by obtain ⟨b, hx⟩ := opnd h x; rw [h1] at hx; exact slot_int hx
  have e2 : a.eval y = .int k' n := by obtain ⟨b, hy⟩ := opnd h y; rw [h2] at hy; exact slot_int hy
  have hr : (execOp a.eval o).run P w = .ok (.value (.slice (some ⟨w.heap.size, 0, none⟩) n n)) (w.alloc (.cells ((Array.range (n * es)).map (zv.cells[· % zv.cells.size]!)) e)) := by
    have hbig : (j.bytes : Int) * (n : Int) ≤ 281474976710656 := by
      rw [heb]
      have h3 : eb * n ≤ 128 * 1099511627776 := Nat.mul_le_mul heb1 hn
      have h4 : ((eb * n : Nat) : Int) = (eb : Int) * n := by simp
      rw [← h4]
      omega
    have h5 := run_make (P := P) w t e j zv hu hj hjz k k' n n (by omega) (Int.le_refl _) hbig (by unfold lim at hn; omega)
    simp only [Int.toNat_natCast, hes] at h5
    simp only [execOp, hop, e1, e2, Sem.run_bind, h5, Result.andThen_ok, Sem.run_pure]
    rfl
  have h6 := h.alloc (St' := St) hz (.cells ((Array.range (n * es)).map (zv.cells[· % zv.cells.size]!)) e) (fun _ _ _ => Iff.rfl) (fun b o hs => Nat.le_of_lt (h.st b o hs))
  have h7 := row_alloc (St' := St) h hrow (by simp) (.cells ((Array.range (n * es)).map (zv.cells[· % zv.cells.size]!)) e) (fun _ _ _ => Iff.rfl)
  refine wp_val hr ⟨_, hk, St, upd B d [w.heap.size], ?_, hb.alloc hz _, hst, by simp; omega⟩
  rw [ho]
  exact h6.putBox hd hx hold (c := .uni e n (zrow ez es n)) ⟨w.heap.size, [], _, rfl, alloc_heap_new w _, h7, rfl, fun o hs => absurd (h.st _ o hs) (by omega), hn, by rw [hcsz]; simp [zrow]⟩ (by simp) (by simp) rfl
/-- such a slice goes to another slot -/
theorem opS_asgU {p d : Nat} {e : TypeId} {n : Nat} {cs : List V} (hop : o.op = .assign (.tmp p) ∨ o.op = .move (.tmp p)) (hs : σ p = .uni e n cs) (ho : o.dst = some d) (hd : d < nt) (hx : d ∈ bx) (hold : bxOf (kill [p] σ d) = none) (hk : K (upd (kill [p] σ) d (.uni e n cs))) : OpS P nt bx base St0 w0 o σ K := by
  rintro a w Q ⟨St, B, h, hb, hst, hz⟩
  have hr : (execOp a.eval o).run P w = .ok (.value (tm a p)) w := by rcases hop with e | e <;> simp [execOp, e] <;> rfl
  have hsl := h.slot p
  rw [hs] at hsl
  obtain ⟨B1, h3, hB1⟩ := h.giveUp p
  rw [List.nil_append] at h3
  refine wp_val hr ⟨_, hk, St, upd B1 d (B p), ?_, hb, hst, hz⟩
  rw [ho]
  exact h3.putBox hd hx hold (c := .uni e n cs) hsl (h.nodup p) (fun _ h => h) rfl
/-- a slice that is no longer written goes over to another slot -/
theorem opS_takeU {p d : Nat} {e : TypeId} {n : Nat} {cs : List V} (hop : o.op = .assign (.tmp p) ∨ o.op = .move (.tmp p)) (hs : σ p = .uni e n cs) (ho : o.dst = some d) (hd : d < nt) (hx : d ∉ bx) (hk : K (upd (upd (kill [p] σ) p (.dat n cs)) d (.own e n cs))) : OpS P nt bx base St0 w0 o σ K := by
  intro a w Q hr
  have h1 := rel_freeze hs hr
  have h2 : opV (upd (kill [p] σ) p (.own e n cs)) (.tmp p) = .own e n cs := by simp [opV, upd_same]
  have h3 : takeS (upd (kill [p] σ) p (.own e n cs)) (.tmp p) = upd (kill [p] σ) p (.dat n cs) := by
    simp only [takeS, upd_same, dg, dg2, dg1]
    funext q
    unfold upd
    split <;> rfl
  refine opS_take (K := K) (x := .tmp p) hop ho hd hx (by rw [h2]; rfl) ?_ a w Q h1
  rw [h2, h3]
  exact hk
end
end Go.Proofs.Ytkmkbpphdalgoaa
