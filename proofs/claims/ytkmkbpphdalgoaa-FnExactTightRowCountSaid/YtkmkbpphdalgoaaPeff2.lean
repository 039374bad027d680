/-
  The pure machine, part 6: loads that take over, stores, new variables, structs and slices that are built, append, calls. Over no program; no conditions.
-/
import Derived.Test.YtkmkbpphdalgoaaPeff
namespace Go.Proofs.Ytkmkbpphdalgoaa
open Go.RowKit
set_option linter.unusedVariables false

/-- the value of a type out of the cells from off on, with what they own -/
def ownCells (d : TyD) (cs : List V) (off : Nat) : V :=
  match d with
  | .st n _ _ => .agg ((cs.drop off).take n)
  | _ => match cs[off]? with
    | some c => c
    | none => .undef
/-- and what stays -/
def leftCells (n : Nat) (cs : List V) (off : Nat) : List V := repl cs off (((cs.drop off).take n).map dg1)
section
variable {P : Program} {nt base : Nat} {bx : List Nat} {St St' St0 : Nat → Nat → Prop} {B : Nat → List Nat} {hand : List Nat} {σ : PS} {a : Act} {w w' w0 : World} {K : PS → Prop} {Q : Exit → Act → World → Prop} {o : Oper}
theorem take_one {α : Type} {cs : List α} {off : Nat} (h : off < cs.length) : (cs.drop off).take 1 = [cs[off]] := by
  rw [List.drop_eq_getElem_cons h, List.take_succ_cons, List.take_zero]
/-- a load that takes over what a variable holds -/
theorem opS_loadTake {tb : Tb} (htb : TbOk P tb) {t : TypeId} {dd : TyD} {x : Operand} {s off d : Nat} {cs : List V} (hop : o.op = .load t x) (ht : tb t = some dd) (hax : adV σ x = .cref s off) (hs : bxOf (σ s) = some cs) (hl : off + dd.size ≤ cs.length)
    (ho : o.dst = some d) (hd : d < nt) (hx : d ∉ bx) (hk : K (upd (upd σ s (setBx (σ s) (leftCells dd.size cs off))) d (ownCells dd cs off))) : OpS P nt bx base St0 w0 o σ K := by
  rintro a w Q ⟨St, B, h, hb, hst, hz⟩
  obtain ⟨g, T, bs', arr, h1, h2, h3, h4, h5, h6⟩ := adr_cref h hax hs
  have hlc : loadC dd σ (adV σ x) := by rw [hax]; simp only [loadC, hs]; exact hl
  have hagr := htb _ _ ht
  -- the cells in three parts
  have e0 := parts3 cs off dd.size
  rw [e0] at h4
  obtain ⟨us1, us2, b1, b2, eu, eb, r1, r2⟩ := OwRow.app h4
  obtain ⟨us3, us4, b3, b4, eu', eb', r3, r4⟩ := OwRow.app r2
  have l1 : us1.length = off := by rw [r1.length, List.length_take, Nat.min_eq_left (by omega)]
  have l3 : us3.length = dd.size := by rw [r3.length, List.length_take, List.length_drop, Nat.min_eq_left (by omega)]
  have hnd : (g :: (b1 ++ (b3 ++ b4))).Nodup := by have := h.nodup s; rw [h5, eb, eb'] at this; exact this
  have hcell : ∀ (j : Nat) (u : Value), us3[j]? = some u → w.cell? ⟨g, off + j, none⟩ = some u := by
    intro j u hu
    have hj : j < us3.length := by
      rcases Nat.lt_or_ge j us3.length with h | h
      · exact h
      · rw [List.getElem?_eq_none h] at hu; cases hu
    simp only [World.cell?, h3, Option.isSome_none, Bool.false_eq_true, if_false]
    have : arr.toList[off + j]? = some u := by
      rw [eu, eu', List.getElem?_append_right (by omega), l1, Nat.add_sub_cancel_left, List.getElem?_append_left hj]; exact hu
    simpa using this
  -- the value
  have hval : ∃ v, (execOp a.eval o).run P w = .ok (.value v) w ∧ Ow P w St (ownCells dd cs off) v b3 := by
    cases hag : dd.aggr with
    | true =>
      cases dd with
      | sc z => cases hag
      | sl e es eb ez => cases hag
      | st n z f =>
        refine ⟨.agg us3.toArray, ?_, us3, rfl, r3⟩
        have hr := run_loadCells_list (P := P) (w := w) ⟨g, off, none⟩ us3 (fun j v hv => by rw [add_plain]; exact hcell j v hv)
        simp only [TyD.size] at l3
        rw [l3] at hr
        simp [execOp, hop, h1, Instr.loadAt, Instr.sureAddr, loadVar, hagr.isAgg, hagr.sizeOf, TyD.aggr, TyD.size, hr]
    | false =>
      have hs1 : dd.size = 1 := by cases dd <;> first | rfl | cases hag
      have hlt : off < cs.length := by omega
      rw [hs1, take_one hlt] at r3
      obtain ⟨u, us', c1, c2, e1, e2, hc, q1, q2⟩ := r3
      obtain ⟨rfl, rfl⟩ := q2
      have hcl := hcell 0 u (by rw [e1]; rfl)
      refine ⟨u, ?_, ?_⟩
      · have hcell' : w.cell? ⟨g, off, none⟩ = some u := by simpa using hcl
        simp [execOp, hop, h1, Instr.loadAt, Instr.sureAddr, loadVar, hagr.isAgg, hag, hcell']
      · have : ownCells dd cs off = cs[off] := by
          cases dd <;> first | (simp only [ownCells, List.getElem?_eq_getElem hlt]; done) | cases hag
        rw [this, e2, List.append_nil]
        exact q1
  obtain ⟨v, hr, hv⟩ := hval
  have hbox : SlotR P w St (tm a) (setBx (σ s) (leftCells dd.size cs off)) (tm a s) (g :: (b1 ++ b4)) := by
    have hlen : (leftCells dd.size cs off).length = cs.length := repl_length (by rw [List.length_map, List.length_take, List.length_drop, Nat.min_eq_left (by omega)]; exact hl)
    refine slot_setBx hs (h.slot s) h2 h3 h3 ?_ h6 hlen
    have hj := r1.join ((OwRow.deg1 _ r3).join r4)
    rw [List.nil_append] at hj
    have ll : (((cs.drop off).take dd.size).map dg1).length = dd.size := by rw [List.length_map, List.length_take, List.length_drop, Nat.min_eq_left (by omega)]
    unfold leftCells repl
    rw [ll, eu, eu', List.append_assoc]
    exact hj
  have hnd2 := List.nodup_cons.1 hnd
  have hnd3 := List.nodup_append.1 hnd2.2
  have hnd4 := List.nodup_append.1 hnd3.2.1
  have hsub : ∀ q ∈ g :: (b1 ++ b4), q ∈ B s ∨ q ∈ ([] : List Nat) := by
    intro q hq
    rw [h5, eb, eb']
    simp only [List.mem_cons, List.mem_append] at *
    rcases hq with h | h | h
    · exact .inl (.inl h)
    · exact .inl (.inr (.inl h))
    · exact .inl (.inr (.inr (.inr h)))
  have hb3 : ∀ q ∈ b3, q ∈ B s := by
    intro q hq
    rw [h5, eb, eb']
    simp only [List.mem_cons, List.mem_append]
    exact .inr (.inr (.inl hq))
  have h7 := h.setBox (hand' := b3) hs (bxOf_setBx _ _) hbox (List.nodup_cons.2 ⟨fun hm => hnd2.1 (by
      rcases List.mem_append.1 hm with hm | hm
      · exact List.mem_append_left _ hm
      · exact List.mem_append_right _ (List.mem_append_right _ hm)), List.nodup_append.2 ⟨hnd3.1, hnd4.2.1, fun x hx y hy => hnd3.2.2 x hx y (List.mem_append_right _ hy)⟩⟩) hsub hnd4.1 (fun q hq => .inl (hb3 q hq)) (by
    intro q hq hq3
    rcases List.mem_cons.1 hq with rfl | hq
    · exact hnd2.1 (List.mem_append_right _ (List.mem_append_left _ hq3))
    · rcases List.mem_append.1 hq with hq | hq
      · exact hnd3.2.2 q hq q (List.mem_append_left _ hq3) rfl
      · exact hnd4.2.2 q hq3 q hq rfl)
  refine wp_val hr ⟨_, hk, St, upd (upd B s (g :: (b1 ++ b4))) d b3, ?_, hb, hst, hz⟩
  rw [ho]
  exact h7.put hd hx hv.slot hnd4.1 (by simp) hv.notBox.1 hv.noRef
theorem take_box {y : Operand} {s : Nat} {cs : List V} (hs : bxOf (σ s) = some cs) (hv : (opV σ y).isVal = true) : takeS σ y s = σ s := by
  cases y with
  | tmp q =>
    simp only [takeS]
    by_cases e : s = q
    · subst e; rw [show opV σ (.tmp s) = σ s from rfl] at hv; rw [(val_notBox hv).1] at hs; cases hs
    · rw [upd_ne _ _ e]
  | _ => rfl
theorem take_adr {x y : Operand} {s off : Nat} (hax : adV σ x = .cref s off) (hv : (opV σ y).isVal = true) : adV (takeS σ y) x = .cref s off := by
  cases y with
  | tmp q =>
    cases x with
    | tmp p =>
      have hpq : p ≠ q := by
        intro e; subst e
        rw [show opV σ (.tmp p) = σ p from rfl] at hv
        simp only [adV] at hax
        split at hax
        · rename_i h; rw [h] at hv; cases hv
        · rw [hax] at hv; cases hv
      simp only [takeS, adV] at *
      rw [upd_ne _ _ hpq]; exact hax
    | _ => exact hax
  | _ => exact hax
/-- a store into a variable -/
theorem opS_store {tb : Tb} (htb : TbOk P tb) {t : TypeId} {dd : TyD} {x y : Operand} {s off : Nat} {cs : List V} (hop : o.op = .store t x y) (ht : tb t = some dd) (hax : adV σ x = .cref s off) (hs : bxOf (σ s) = some cs)
    (hv : (opV σ y).isArg = true) (hn : (cellsV (opV σ y)).length = dd.size) (hl : off + dd.size ≤ cs.length) (ho : o.dst = none) (hk : K (upd (takeS σ y) s (setBx (σ s) (repl cs off (cellsV (opV σ y)))))) : OpS P nt bx base St0 w0 o σ K := by
  have hvv : (opV σ y).isVal = true := by cases h : opV σ y <;> rw [h] at hv <;> first | exact hv | cases hv
  rintro a w Q ⟨St, B, h, hb, hst, hz⟩
  obtain ⟨bs, B', hw, h2, hnb⟩ := take_op h y hvv
  rw [List.nil_append] at h2 hnb
  have hs3 := take_box hs hvv
  have hs2 : bxOf (takeS σ y s) = some cs := by rw [hs3]; exact hs
  obtain ⟨g, T, bs', arr, q1, q2, q3, q4, q5, q6⟩ := adr_cref h2 (take_adr hax hvv) hs2
  have hagr := htb _ _ ht
  have hcells := hw.cells hv
  have e0 := parts3 cs off dd.size
  rw [e0] at q4
  obtain ⟨us1, us2, b1, b2, eu, eb, r1, r2⟩ := OwRow.app q4
  obtain ⟨us3, us4, b3, b4, eu', eb', r3, r4⟩ := OwRow.app r2
  have l1 : us1.length = off := by rw [r1.length, List.length_take, Nat.min_eq_left (by omega)]
  have l3 : us3.length = dd.size := by rw [r3.length, List.length_take, List.length_drop, Nat.min_eq_left (by omega)]
  have lv : (a.eval y).cells.toList.length = dd.size := by rw [hcells.length, hn]
  have la : arr.toList.length = cs.length := by rw [eu, eu', List.length_append, List.length_append, l1, l3, r4.length, List.length_drop]; omega
  have hst0 := run_storeCells_at (P := P) g off T (a.eval y).cells.toList 0 arr w q3 (by rw [lv]; rw [Array.length_toList] at la; omega) ((OwRow.rdL _ hcells).oneCell)
  have hnew : arr.toList.take (off + 0) ++ (a.eval y).cells.toList ++ arr.toList.drop (off + 0 + (a.eval y).cells.toList.length) = us1 ++ ((a.eval y).cells.toList ++ us4) := by
    rw [lv, Nat.add_zero, eu, eu', List.append_assoc]
    congr 1
    · rw [← l1]; simp
    · congr 1
      rw [← List.append_assoc, List.drop_append_of_le_length (by simp [l1, l3]), List.drop_of_length_le (by simp [l1, l3])]
      simp
  rw [hnew] at hst0
  have hr : (execOp a.eval o).run P w = .ok .skip (w.setRow g (us1 ++ ((a.eval y).cells.toList ++ us4)).toArray) := by
    have hsz : (a.eval y).cells.size = dd.size := by rw [← lv, Array.length_toList]
    simp [execOp, hop, q1, Instr.storeAt, Instr.sureAddr, storeVar, hagr.sizeOf, hsz, hst0]
  have hkeep : ∀ k, k ≠ g → (w.setRow g (us1 ++ ((a.eval y).cells.toList ++ us4)).toArray).heap[k]? = w.heap[k]? := fun k hk => setRow_other w g k _ hk
  have hsize : (w.setRow g (us1 ++ ((a.eval y).cells.toList ++ us4)).toArray).heap.size = w.heap.size := by simp [World.setRow]
  have hext : Ext St w (w.setRow g (us1 ++ ((a.eval y).cells.toList ++ us4)).toArray) := fun b o' hs' => World.cell?_of_block (hkeep b (fun e => q6 o' (e ▸ hs')))
  have hnd : (g :: (b1 ++ (b3 ++ b4))).Nodup := by have := h2.nodup s; rw [q5, eb, eb'] at this; exact this
  have hnd2 := List.nodup_cons.1 hnd
  have hnd3 := List.nodup_append.1 hnd2.2
  have hnd4 := List.nodup_append.1 hnd3.2.1
  have hgb : ∀ k ∈ bs, k ≠ g := fun k hk e => h2.hapart s g (by rw [q5]; simp) (e ▸ hk)
  have hBs : ∀ k, k ∈ b1 ∨ k ∈ b4 → k ∈ B' s := by
    intro k hk
    rw [q5, eb, eb']
    simp only [List.mem_cons, List.mem_append]
    rcases hk with hk | hk
    · exact .inr (.inl hk)
    · exact .inr (.inr (.inr hk))
  have hg1 : ∀ k ∈ b1, k ≠ g := fun k hk e => hnd2.1 (e ▸ List.mem_append_left _ hk)
  have hg4 : ∀ k ∈ b4, k ≠ g := fun k hk e => hnd2.1 (e ▸ List.mem_append_right _ (List.mem_append_right _ hk))
  have m1 := OwRow.mono (St' := St) (fun _ _ h => h) hext _ r1 (fun k hk => ⟨hkeep k (hg1 k hk), fun _ => Iff.rfl⟩)
  have m4 := OwRow.mono (St' := St) (fun _ _ h => h) hext _ r4 (fun k hk => ⟨hkeep k (hg4 k hk), fun _ => Iff.rfl⟩)
  have mv := OwRow.mono (St' := St) (fun _ _ h => h) hext _ hcells (fun k hk => ⟨hkeep k (hgb k hk), fun _ => Iff.rfl⟩)
  have hbox : SlotR P (w.setRow g (us1 ++ ((a.eval y).cells.toList ++ us4)).toArray) St (tm a) (setBx (σ s) (repl cs off (cellsV (opV σ y)))) (tm a s) (g :: (b1 ++ (bs ++ b4))) := by
    refine slot_setBx hs (by have := h2.slot s; rw [hs3] at this; exact this) q2 q3 (setRow_heap w g arr _ T _ q3) ?_ q6 (repl_length (by rw [hn]; exact hl))
    unfold repl
    rw [hn, List.append_assoc]
    exact m1.join (mv.join m4)
  have hda : ∀ k ∈ bs, ¬ (k ∈ b1 ∨ k ∈ b4) := fun k hk hm => h2.hapart s k (hBs k hm) hk
  refine wp_skp hr ⟨_, hk, St, upd B' s (g :: (b1 ++ (bs ++ b4))), ?_, ?_, hst, by rw [hsize]; exact hz⟩
  · rw [ho]
    refine h2.boxW hs2 (bxOf_setBx _ _) q5 q6 hkeep hsize hbox ?_ ?_ List.nodup_nil (by simp) (by simp)
    · refine List.nodup_cons.2 ⟨?_, List.nodup_append.2 ⟨hnd3.1, List.nodup_append.2 ⟨hnb, hnd4.2.1, fun x hx y hy e => hda x hx (.inr (e ▸ hy))⟩, ?_⟩⟩
      · intro hm
        rcases List.mem_append.1 hm with hm | hm
        · exact hg1 g hm rfl
        · rcases List.mem_append.1 hm with hm | hm
          · exact hgb g hm rfl
          · exact hg4 g hm rfl
      · intro x hx y hy e
        rcases List.mem_append.1 hy with hy | hy
        · exact hda y hy (.inl (e ▸ hx))
        · exact hnd3.2.2 x hx y (List.mem_append_right _ hy) e
    · intro k hk
      rcases List.mem_cons.1 hk with rfl | hk
      · exact .inl (by rw [q5]; simp)
      · rcases List.mem_append.1 hk with hk | hk
        · exact .inl (hBs k (.inl hk))
        · rcases List.mem_append.1 hk with hk | hk
          · exact .inr hk
          · exact .inl (hBs k (.inr hk))
  · have hgb : base ≤ g := (h2.range s g (by rw [q5]; simp)).1
    exact hb.trans ⟨rfl, rfl, rfl, by rw [hsize]; exact Nat.le_refl _, fun k hk => hkeep k (by omega)⟩
/-- the zero value's cells -/
def zeroL : TyD → List V
  | .sc z => [z]
  | .st _ z _ => z
  | .sl e _ _ _ => [.own e 0 []]
theorem nil_ow (e : TypeId) : Ow P w St (.own e 0 []) (.slice none 0 0) [] := ⟨Nat.zero_le _, [], [], World.ownsRow_nil _ _ _ _, ⟨rfl, rfl⟩, rfl, (fun g hg => by cases hg), fun _ => rfl⟩
theorem zero_run {t : TypeId} {d : TyD} (h : Agr P t d) : ∃ zv, (zeroValue t).run P w = .ok zv w ∧ ∀ w St, OwRow P w St (zeroL d) zv.cells.toList [] := by
  cases d with
  | sc z =>
    obtain ⟨i, zv, d, hi, _, hz, hzl, _⟩ := h
    refine ⟨zv, by simp [zeroValue, typeInfo, hi, hz], fun w St => ?_⟩
    have h1 := hzl w St
    have h2 := (OwRow.rdL _ h1).oneCell zv (by simp)
    have : zv.cells = #[zv] := by cases zv <;> first | rfl | cases h2
    rw [this]; exact h1
  | st n z f => obtain ⟨i, arr, fs, hi, _, hz, hzl, _⟩ := h; exact ⟨.agg arr, by simp [zeroValue, typeInfo, hi, hz], fun w St => hzl w St⟩
  | sl e es eb ez =>
    obtain ⟨i, j, zv, hi, _, hz, _⟩ := h
    exact ⟨.slice none 0 0, by simp [zeroValue, typeInfo, hi, hz], fun w St => ⟨.slice none 0 0, [], [], [], rfl, rfl, rfl, nil_ow e, rfl, rfl⟩⟩
theorem alloc_heap_new (w : World) (ob : Obj) : (w.alloc ob).heap[w.heap.size]? = some ob := heap_alloc_new w ob
/-- a new block comes to hand -/
theorem HSim.alloc (h : HSim P nt bx base St B hand σ a w) (hz : base ≤ w.heap.size) (ob : Obj) (hst : ∀ b o, b < w.heap.size → (St' b o ↔ St b o)) (hst' : ∀ b o, St' b o → b ≤ w.heap.size) :
    HSim P nt bx base St' B (hand ++ [w.heap.size]) σ a (w.alloc ob) := by
  have h1 := h.grow (w' := w.alloc ob) (below1 w ob) hst (fun b o hs => by rw [World.size_alloc]; exact Nat.lt_succ_of_le (hst' b o hs))
  refine h1.fresh (by simp) ?_ ?_ ?_
  · intro g hg
    simp only [List.mem_singleton] at hg
    subst hg
    exact ⟨hz, by simp⟩
  · intro s g hg hm
    simp only [List.mem_singleton] at hm
    have := (h.range s g hg).2
    omega
  · intro g hg hm
    simp only [List.mem_singleton] at hm
    have := (h.hrange g hg).2
    omega
/-- a new variable -/
theorem opS_alloc {tb : Tb} (htb : TbOk P tb) {t : TypeId} {dd : TyD} {d : Nat} (hop : o.op = .alloc t) (ht : tb t = some dd) (ho : o.dst = some d) (hd : d < nt) (hx : d ∈ bx) (hold : bxOf (σ d) = none) (hk : K (upd σ d (.box (zeroL dd)))) : OpS P nt bx base St0 w0 o σ K := by
  rintro a w Q ⟨St, B, h, hb, hst, hz⟩
  obtain ⟨zv, hzr, hzl⟩ := zero_run (w := w) (htb _ _ ht)
  have hr : (execOp a.eval o).run P w = .ok (.value (.pointer (some ⟨w.heap.size, 0, none⟩))) (w.alloc (.cells zv.cells t)) := by
    simp [execOp, hop, Instr.alloc, hzr, newVar, newRow]
  have h1 := h.alloc (St' := St) hz (.cells zv.cells t) (fun _ _ _ => Iff.rfl) (fun b o hs => Nat.le_of_lt (h.st b o hs))
  refine wp_val hr ⟨_, hk, St, upd B d [w.heap.size], ?_, hb.alloc hz _, hst, by simp; omega⟩
  rw [ho]
  refine h1.putBox hd hx hold (c := .box (zeroL dd)) ⟨w.heap.size, t, [], zv.cells, rfl, alloc_heap_new w _, hzl _ _, rfl, fun o hs => absurd (h.st _ o hs) (by omega)⟩ (by simp) (by simp) rfl
theorem ow_alloc (h : HSim P nt bx base St B hand σ a w) {c : V} {v : Value} {bs : List Nat} (hw : Ow P w St c v bs) (hb : ∀ g ∈ bs, g ∈ hand) (ob : Obj) (hst : ∀ b o, b < w.heap.size → (St' b o ↔ St b o)) : Ow P (w.alloc ob) St' c v bs :=
  Ow.mono (fun b o hs => (hst b o (h.st b o hs)).2 hs) (fun b o hs => (below1 w ob).cell (p := ⟨b, o, none⟩) (h.st b o hs)) c hw (fun g hg => ⟨(below1 w ob).block g (h.hrange g (hb g hg)).2, fun o => hst g o (h.hrange g (hb g hg)).2⟩)
theorem row_alloc (h : HSim P nt bx base St B hand σ a w) {cs : List V} {us : List Value} {bs : List Nat} (hw : OwRow P w St cs us bs) (hb : ∀ g ∈ bs, g ∈ hand) (ob : Obj) (hst : ∀ b o, b < w.heap.size → (St' b o ↔ St b o)) : OwRow P (w.alloc ob) St' cs us bs :=
  OwRow.mono (fun b o hs => (hst b o (h.st b o hs)).2 hs) (fun b o hs => (below1 w ob).cell (p := ⟨b, o, none⟩) (h.st b o hs)) cs hw (fun g hg => ⟨(below1 w ob).block g (h.hrange g (hb g hg)).2, fun o => hst g o (h.hrange g (hb g hg)).2⟩)
theorem val_of_arg {c : V} (h : c.isArg = true) : c.isVal = true := by cases c <;> first | exact h | cases h
/-- a new variable with a value -/
theorem opS_box {t : TypeId} {x : Operand} {d : Nat} (hop : o.op = .box t x) (ho : o.dst = some d) (hd : d < nt) (hx : d ∈ bx) (hv : (opV σ x).isArg = true) (hold : bxOf (takeS σ x d) = none) (hk : K (upd (takeS σ x) d (.box (cellsV (opV σ x))))) : OpS P nt bx base St0 w0 o σ K := by
  rintro a w Q ⟨St, B, h, hb, hst, hz⟩
  obtain ⟨bs, B', hw, h2, hnb⟩ := take_op h x (val_of_arg hv)
  rw [List.nil_append] at h2 hnb
  have hr : (execOp a.eval o).run P w = .ok (.value (.pointer (some ⟨w.heap.size, 0, none⟩))) (w.alloc (.cells (a.eval x).cells t)) := by
    simp [execOp, hop, Instr.box, newVar, newRow]
  have h1 := h2.alloc (St' := St) hz (.cells (a.eval x).cells t) (fun _ _ _ => Iff.rfl) (fun b o hs => Nat.le_of_lt (h.st b o hs))
  have hrow := row_alloc (St' := St) h2 (hw.cells hv) (fun _ h => h) (.cells (a.eval x).cells t) (fun _ _ _ => Iff.rfl)
  have hgn : w.heap.size ∉ bs := fun hm => by have := (h2.hrange _ hm).2; omega
  refine wp_val hr ⟨_, hk, St, upd B' d (w.heap.size :: bs), ?_, hb.alloc hz _, hst, by simp; omega⟩
  rw [ho]
  refine h1.putBox hd hx hold (c := .box (cellsV (opV σ x))) ⟨w.heap.size, t, bs, _, rfl, alloc_heap_new w _, hrow, rfl, fun o hs => absurd (h.st _ o hs) (by omega)⟩ (List.nodup_cons.2 ⟨hgn, hnb⟩) (by
    intro g hg
    rcases List.mem_cons.1 hg with rfl | hg
    · simp
    · exact List.mem_append_left _ hg) rfl

/-! ### structs and slices that are built -/
/-- parts laid over cells -/
def fillP (place : Nat → Option (Nat × Nat)) : List (Nat × Operand) → PS → List V → Option (PS × List V)
  | [], σ, cs => some (σ, cs)
  | (i, x) :: r, σ, cs => match place i with
    | some (off, sz) => if (opV σ x).isArg = true ∧ (cellsV (opV σ x)).length = sz ∧ off + sz ≤ cs.length then fillP place r (takeS σ x) (repl cs off (cellsV (opV σ x))) else none
    | none => none
theorem set_fold (new : List Value) : ∀ (k off : Nat) (arr : Array Value), off + k + new.length ≤ arr.size →
    (new.zipIdx k).foldl (fun cs (c, j) => cs.setIfInBounds (off + j) c) arr = (arr.toList.take (off + k) ++ new ++ arr.toList.drop (off + k + new.length)).toArray := by
  induction new with
  | nil => intro k off arr _; simp
  | cons u new ih =>
    intro k off arr hl
    simp only [List.length_cons] at hl
    rw [List.zipIdx_cons, List.foldl_cons, ih (k + 1) off _ (by simp; omega)]
    have hp : off + k < arr.toList.length := by rw [Array.length_toList]; omega
    have e1 : (arr.setIfInBounds (off + k) u).toList = arr.toList.set (off + k) u := by simp
    have e2 : (arr.toList.set (off + k) u).take (off + (k + 1)) = arr.toList.take (off + k) ++ [u] := by
      rw [show off + (k + 1) = off + k + 1 by omega, List.take_succ_eq_append_getElem (by rw [List.length_set]; exact hp), List.take_set_of_le (by omega)]
      simp
    have e3 : (arr.toList.set (off + k) u).drop (off + (k + 1) + new.length) = arr.toList.drop (off + k + (u :: new).length) := by
      rw [List.drop_set_of_lt (by omega), List.length_cons]
      congr 1; omega
    simp only
    rw [e1, e2, e3]
    simp
theorem fill_ok (place : Nat → Option (Nat × Nat)) : ∀ (parts : List (Nat × Operand)) (σ σ' : PS) (B : Nat → List Nat) (hand : List Nat) (cs cs' : List V) (arr : Array Value) (bs : List Nat), HSim P nt bx base St B hand σ a w → OwRow P w St cs arr.toList bs → bs.Nodup → (∀ g ∈ bs, g ∈ hand) → fillP place parts σ cs = some (σ', cs') →
    ∃ B' hand' arr' bs', Instr.fill place arr (parts.map fun p => (p.1, a.eval p.2)) = some arr' ∧ HSim P nt bx base St B' hand' σ' a w ∧ OwRow P w St cs' arr'.toList bs' ∧ bs'.Nodup ∧ ∀ g ∈ bs', g ∈ hand'
  | [], σ, σ', B, hand, cs, cs', arr, bs, h, hr, hn, hs, e => by
    simp only [fillP, Option.some.injEq, Prod.mk.injEq] at e
    obtain ⟨rfl, rfl⟩ := e
    exact ⟨B, hand, arr, bs, rfl, h, hr, hn, hs⟩
  | (i, x) :: parts, σ, σ', B, hand, cs, cs', arr, bs, h, hr, hn, hs, e => by
    simp only [fillP] at e
    cases hp : place i with
    | none => rw [hp] at e; cases e
    | some q =>
      obtain ⟨off, sz⟩ := q
      rw [hp] at e
      simp only at e
      split at e
      · rename_i hc
        obtain ⟨hv, hl, hlen⟩ := hc
        obtain ⟨bv, B', hw, h2, hnb⟩ := take_op h x (val_of_arg hv)
        have hcells := hw.cells hv
        have e0 := parts3 cs off sz
        rw [e0] at hr
        obtain ⟨us1, us2, b1, b2, eu, eb, r1, r2⟩ := OwRow.app hr
        obtain ⟨us3, us4, b3, b4, eu', eb', r3, r4⟩ := OwRow.app r2
        have l1 : us1.length = off := by rw [r1.length, List.length_take, Nat.min_eq_left (by omega)]
        have l3 : us3.length = sz := by rw [r3.length, List.length_take, List.length_drop, Nat.min_eq_left (by omega)]
        have lv : (a.eval x).cells.toList.length = sz := by rw [hcells.length, hl]
        have la : arr.toList.length = cs.length := by rw [eu, eu', List.length_append, List.length_append, l1, l3, r4.length, List.length_drop]; omega
        rw [Array.length_toList] at la
        have hset := set_fold (a.eval x).cells.toList 0 off arr (by omega)
        have hnew : arr.toList.take (off + 0) ++ (a.eval x).cells.toList ++ arr.toList.drop (off + 0 + (a.eval x).cells.toList.length) = us1 ++ ((a.eval x).cells.toList ++ us4) := by
          rw [lv, Nat.add_zero, eu, eu', List.append_assoc]
          congr 1
          · rw [← l1]; simp
          · congr 1
            rw [← List.append_assoc, List.drop_append_of_le_length (by simp [l1, l3]), List.drop_of_length_le (by simp [l1, l3])]
            simp
        rw [hnew] at hset
        have hrow : OwRow P w St (repl cs off (cellsV (opV σ x))) (us1 ++ ((a.eval x).cells.toList ++ us4)) (b1 ++ (bv ++ b4)) := by
          unfold repl
          rw [hl, List.append_assoc]
          exact r1.join (hcells.join r4)
        rw [eb, eb'] at hn hs
        have n1 := List.nodup_append.1 hn
        have n2 := List.nodup_append.1 n1.2.1
        have hnb' := List.nodup_append.1 hnb
        have hsub1 : ∀ g ∈ b1, g ∈ hand := fun g hg => hs g (List.mem_append_left _ hg)
        have hsub4 : ∀ g ∈ b4, g ∈ hand := fun g hg => hs g (List.mem_append_right _ (List.mem_append_right _ hg))
        obtain ⟨B2, hand2, arr2, bs2, hf, h3, h4, h5, h6⟩ := fill_ok place parts (takeS σ x) σ' B' (hand ++ bv) (repl cs off (cellsV (opV σ x))) cs' (us1 ++ ((a.eval x).cells.toList ++ us4)).toArray (b1 ++ (bv ++ b4)) h2 hrow
          (List.nodup_append.2 ⟨n1.1, List.nodup_append.2 ⟨hnb'.2.1, n2.2.1, fun x hx y hy e => hnb'.2.2 y (hsub4 y hy) x hx e.symm⟩, fun x hx y hy e => by
            rcases List.mem_append.1 hy with hy | hy
            · exact hnb'.2.2 x (hsub1 x hx) y hy e
            · exact n1.2.2 x hx y (List.mem_append_right _ hy) e⟩)
          (fun g hg => by
            rcases List.mem_append.1 hg with hg | hg
            · exact List.mem_append_left _ (hsub1 g hg)
            · rcases List.mem_append.1 hg with hg | hg
              · exact List.mem_append_right _ hg
              · exact List.mem_append_left _ (hsub4 g hg)) e
        refine ⟨B2, hand2, arr2, bs2, ?_, h3, h4, h5, h6⟩
        simp only [List.map_cons, Instr.fill, hp]
        have hsz : (a.eval x).cells.size = sz := by rw [← lv, Array.length_toList]
        rw [if_neg (by simp [hsz]; omega)]
        have hz : (Array.foldl (fun cs (x : Value × Nat) => cs.setIfInBounds (off + x.2) x.1) arr (a.eval x).cells.zipIdx) = (us1 ++ ((a.eval x).cells.toList ++ us4)).toArray := by
          rw [← Array.foldl_toList, Array.toList_zipIdx]
          exact hset
        rw [← hf]
        congr 1
      · cases e
end
end Go.Proofs.Ytkmkbpphdalgoaa
