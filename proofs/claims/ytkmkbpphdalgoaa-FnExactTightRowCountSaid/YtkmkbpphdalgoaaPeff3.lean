/-
  The pure machine, part 7: structs and slices that are built, make, append, calls. Over no program; no conditions.
-/
import Derived.Test.YtkmkbpphdalgoaaPeff2
import Derived.IntWalk
namespace Go.Proofs.Ytkmkbpphdalgoaa
open Go.RowKit
set_option linter.unusedVariables false

section
variable {P : Program} {nt base : Nat} {bx : List Nat} {St St' St0 : Nat → Nat → Prop} {B : Nat → List Nat} {hand : List Nat} {σ σ' : PS} {a : Act} {w w' w0 : World} {K : PS → Prop} {Q : Exit → Act → World → Prop} {o : Oper}
theorem map_parts (parts : Array (Nat × Operand)) (f : Operand → Value) : (parts.map fun (i, x) => (i, f x)).toList = parts.toList.map fun p => (p.1, f p.2) := by simp
theorem mapM_places (fs : List Field) (hp : ∀ f ∈ fs, 0 < csz P f.type) : (fs.mapM fun f => do pure (f.offset, ← Go.sizeOf f.type) : Sem (List (Nat × Nat))).run P w = .ok (fs.map fun f => (f.offset, csz P f.type)) w := by
  induction fs with
  | nil => rfl
  | cons f fs ih =>
    have h1 : (Go.sizeOf f.type).run P w = .ok (csz P f.type) w := by
      have := hp f (by simp)
      unfold csz at *
      cases hi : P.info? f.type with
      | none => rw [hi] at this; simp at this
      | some i => simp [Go.sizeOf, typeInfo, hi]
    simp only [List.mapM_cons, Sem.run_bind, h1, Result.andThen_ok, Sem.run_pure, ih (fun f hf => hp f (by simp [hf]))]
    rfl
/-- a struct that is built -/
theorem opS_build {tb : Tb} (htb : TbOk P tb) {t : TypeId} {n : Nat} {z : List V} {fs : List (Nat × Nat)} {parts : Array (Nat × Operand)} {d : Nat} {cs : List V} (hop : o.op = .build t parts) (ht : tb t = some (.st n z fs))
    (hf : fillP (fun i => fs[i]?) parts.toList σ z = some (σ', cs)) (ho : o.dst = some d) (hd : d < nt) (hx : d ∉ bx) (hk : K (upd σ' d (.agg cs))) : OpS P nt bx base St0 w0 o σ K := by
  rintro a w Q ⟨St, B, h, hb, hst, hz⟩
  obtain ⟨i, arr, gs, hi, _, hzv, hzl, hu, hfs, hpos⟩ := htb _ _ ht
  obtain ⟨B', hand', arr', bs', h1, h2, h3, h4, h5⟩ := fill_ok (fun i => fs[i]?) parts.toList σ σ' B [] z cs arr [] h (hzl w St) List.nodup_nil (by simp) hf
  have hpl : (gs.mapM fun f => do pure (f.offset, ← Go.sizeOf f.type) : Sem (Array (Nat × Nat))).run P w = .ok fs.toArray w := by
    have := mapM_places (P := P) (w := w) gs.toList (fun f hf => by
      have := hpos (f.offset, csz P f.type) (by rw [← hfs]; exact List.mem_map_of_mem hf)
      exact this)
    rw [hfs] at this
    rw [Array.mapM_eq_mapM_toList, Sem.run_map, this]
    rfl
  have hr : (execOp a.eval o).run P w = .ok (.value (.agg arr')) w := by
    have hzr : (zeroValue t).run P w = .ok (.agg arr) w := by simp [zeroValue, typeInfo, hi, hzv]
    have hfill : Instr.fill (fun x => fs.toArray[x]?) (Value.agg arr).cells (parts.map fun (i, x) => (i, a.eval x)).toList = some arr' := by
      rw [map_parts]
      have : (fun (x : Nat) => fs.toArray[x]?) = fun (i : Nat) => fs[i]? := by funext x; simp
      rw [this]; exact h1
    simp only [execOp, hop, Instr.build, Sem.run_bind, hzr, Result.andThen_ok, run_underlying hu, hpl, hfill, Sem.run_pure]
  have hv : Ow P w St (.agg cs) (.agg arr') bs' := ⟨arr'.toList, by simp, h3⟩
  refine wp_val hr ⟨_, hk, St, upd B' d bs', ?_, hb, hst, hz⟩
  rw [ho]
  exact h2.put hd hx hv.slot h4 h5 hv.notBox.1 hv.noRef
/-- a row of zeros -/
def zrow (ez : List V) (es n : Nat) : List V := (List.range (n * es)).map fun i => ez.getD (i % es) .undef
theorem owRow_all : ∀ (cs : List V) (us : List Value), cs.length = us.length → (∀ (j : Nat) (c : V) (u : Value), cs[j]? = some c → us[j]? = some u → c.isCell = true ∧ Ow P w St c u []) → OwRow P w St cs us []
  | [], us, hl, _ => ⟨List.eq_nil_of_length_eq_zero hl.symm, rfl⟩
  | c :: cs, [], hl, _ => by simp at hl
  | c :: cs, u :: us, hl, h => by
    obtain ⟨h1, h2⟩ := h 0 c u rfl rfl
    exact ⟨u, us, [], [], rfl, rfl, h1, h2, owRow_all cs us (by simpa using hl) (fun j x y hx hy => h (j + 1) x y (by simpa using hx) (by simpa using hy))⟩
theorem owRow_get : ∀ {cs : List V} {us : List Value}, OwRow P w St cs us [] → ∀ (j : Nat) (c : V) (u : Value), cs[j]? = some c → us[j]? = some u → c.isCell = true ∧ Ow P w St c u []
  | [], _, _, j, c, u, hc, _ => by simp at hc
  | d :: cs, _, ⟨x, us', b1, b2, e1, e2, hc, h1, h2⟩, j, c, u, ec, eu => by
    have hb : b1 = [] ∧ b2 = [] := by simpa using e2.symm
    obtain ⟨rfl, rfl⟩ := hb
    cases j with
    | zero =>
      rw [e1] at eu
      simp only [List.getElem?_cons_zero, Option.some.injEq] at ec eu
      subst ec eu
      exact ⟨hc, h1⟩
    | succ j => rw [e1] at eu; exact owRow_get h2 j c u (by simpa using ec) (by simpa using eu)
theorem zrow_ok {ez : List V} {us : Array Value} (hz : OwRow P w St ez us.toList []) {es : Nat} (hes : 0 < es) (hl : ez.length = es) (n : Nat) : OwRow P w St (zrow ez es n) ((Array.range (n * es)).map (us[· % us.size]!)).toList [] := by
  have hlu : us.size = es := by rw [← hl, ← hz.length, Array.length_toList]
  refine owRow_all _ _ (by simp [zrow]) (fun j c u hc hu => ?_)
  have hj : j < n * es := by
    rcases Nat.lt_or_ge j (n * es) with h | h
    · exact h
    · rw [List.getElem?_eq_none (by simp [zrow]; omega)] at hc; cases hc
  have hm : j % es < es := Nat.mod_lt _ hes
  have e1 : ez[j % es]? = some c := by
    simp only [zrow, List.getElem?_map, List.getElem?_range hj, Option.map_some, Option.some.injEq] at hc
    rw [← hc, List.getElem?_eq_getElem (by omega), List.getD_eq_getElem?_getD, List.getElem?_eq_getElem (by omega)]
    rfl
  have e2 : us.toList[j % es]? = some u := by
    simp only [Array.toList_map, Array.toList_range, List.getElem?_map, List.getElem?_range hj, Option.map_some, Option.some.injEq] at hu
    rw [← hu, hlu]
    simp [hlu, hm]
  exact owRow_get hz (j % es) c u e1 e2
theorem csz_of {t e : TypeId} {es eb : Nat} {ez : List V} (h : Agr P t (.sl e es eb ez)) : csz P e = es := by
  obtain ⟨i, j, zv, _, _, _, _, hj, _, hes, _⟩ := h
  simp [csz, hj, hes]
/-- a new row of the call's own goes into a slot -/
theorem rel_newRow {e : TypeId} {es n d : Nat} {cs : List V} {arr : Array Value} {bs : List Nat} (hcsz : csz P e = es) (hes0 : 0 < es) (h2 : HSim P nt bx base St B hand σ a w) (h3 : OwRow P w St cs arr.toList bs) (h4 : bs.Nodup) (h5 : ∀ g ∈ bs, g ∈ hand)
    (hb : Below base w0 w) (hst : ∀ b o, b < base → (St b o ↔ St0 b o)) (hz : base ≤ w.heap.size) (hcs : cs.length = n * es) (hnl : n ≤ lim) (hd : d < nt) (hx : d ∉ bx) :
    Rel P nt bx base St0 w0 (upd σ d (.own e n cs)) (a.put (some d) (.slice (some ⟨w.heap.size, 0, none⟩) n n)) (w.alloc (.cells arr e)) := by
  have hsz : arr.size = n * es := by rw [← Array.length_toList, h3.length, hcs]
  have hm : n ≤ maxLen := by unfold maxLen; unfold lim at hnl; omega
  have hst1 : ∀ b o, b < w.heap.size → ((St b o ∨ (b = w.heap.size ∧ o < n * es)) ↔ St b o) := fun b o hlt => ⟨fun h => h.elim id (fun h => by omega), .inl⟩
  have h6 := h2.alloc (St' := fun b o => St b o ∨ (b = w.heap.size ∧ o < n * es)) hz (.cells arr e) hst1 (fun b o hs => by
    rcases hs with hs | hs
    · exact Nat.le_of_lt (h2.st b o hs)
    · omega)
  have h7 := row_alloc (St' := fun b o => St b o ∨ (b = w.heap.size ∧ o < n * es)) h2 h3 h5 (.cells arr e) hst1
  have hgn : w.heap.size ∉ bs := fun hm => by have := (h2.hrange _ (h5 _ hm)).2; omega
  have hv : Ow P (w.alloc (.cells arr e)) (fun b o => St b o ∨ (b = w.heap.size ∧ o < n * es)) (.own e n cs) (.slice (some ⟨w.heap.size, 0, none⟩) n n) (w.heap.size :: bs) := by
    refine ⟨hnl, arr.toList, bs, ?_, h7, rfl, ?_, ?_⟩
    · rw [hcsz]; exact World.ownsRow_lit w arr n (Nat.zero_le _) hm hsz
    · intro g hg o'
      simp only [Value.ownBlock, Option.some.injEq] at hg
      subst hg
      rw [hcsz]
      exact ⟨fun h' => h'.elim (fun h' => absurd (h2.st _ _ h') (by omega)) (·.2), fun h' => .inr ⟨rfl, h'⟩⟩
    · intro hn0; subst hn0; exact List.eq_nil_of_length_eq_zero (by simpa using hcs)
  refine ⟨(fun b o => St b o ∨ (b = w.heap.size ∧ o < n * es)), upd B d (w.heap.size :: bs), ?_, hb.alloc hz _, ?_, by simp; omega⟩
  · exact h6.put hd hx hv.slot (List.nodup_cons.2 ⟨hgn, h4⟩) (by
      intro g hg
      rcases List.mem_cons.1 hg with rfl | hg
      · simp
      · exact List.mem_append_left _ (h5 g hg)) hv.notBox.1 hv.noRef
  · intro b o' hlt
    rw [← hst b o' hlt]
    exact hst1 b o' (by omega)
/-- a slice literal -/
theorem opS_buildSlice {tb : Tb} (htb : TbOk P tb) {t e : TypeId} {es eb n : Nat} {ez : List V} {parts : Array (Nat × Operand)} {d : Nat} {cs : List V} (hop : o.op = .buildSlice t n parts) (ht : tb t = some (.sl e es eb ez))
    (hn : n * es ≤ 16777216) (hf : fillP (fun i => some (i * es, es)) parts.toList σ (zrow ez es n) = some (σ', cs)) (hcs : cs.length = n * es) (ho : o.dst = some d) (hd : d < nt) (hx : d ∉ bx) (hk : K (upd σ' d (.own e n cs))) : OpS P nt bx base St0 w0 o σ K := by
  rintro a w Q ⟨St, B, h, hb, hst, hz⟩
  have hcsz := csz_of (htb _ _ ht)
  obtain ⟨i, j, zv, hi, _, _, hu, hj, hjz, hes, heb, hzl, hlz, hes0, _⟩ := htb _ _ ht
  have hrow := zrow_ok (hzl w St) hes0 hlz n
  obtain ⟨B', hand', arr', bs', h1, h2, h3, h4, h5⟩ := fill_ok (fun i => some (i * es, es)) parts.toList σ σ' B [] (zrow ez es n) cs ((Array.range (n * es)).map (zv.cells[· % zv.cells.size]!)) [] h hrow List.nodup_nil (by simp) hf
  have hr : (execOp a.eval o).run P w = .ok (.value (.slice (some ⟨w.heap.size, 0, none⟩) n n)) (w.alloc (.cells arr' e)) := by
    have hsz : (Go.sizeOf e).run P w = .ok es w := by simp [Go.sizeOf, typeInfo, hj, hes]
    have hzr : (zeroValue e).run P w = .ok zv w := by simp [zeroValue, typeInfo, hj, hjz]
    have hgt : ¬ (n * es > 2 ^ 24) := by omega
    have hmp : (parts.map fun (i, x) => (i, a.eval x)).toList = parts.toList.map fun p => (p.1, a.eval p.2) := map_parts _ _
    by_cases h0 : n * es = 0
    · have e1 : ∀ f : Nat → Value, (Array.range (n * es)).map f = #[] := by intro f; rw [h0]; simp
      rw [e1] at h1
      simp only [execOp, hop, Instr.buildSlice, Sem.run_bind, Result.andThen_ok, run_underlying hu, hsz, hgt, if_false, if_pos h0, e1, hmp, h1, Sem.run_pure, newRow, run_newObj]
      rfl
    · simp only [execOp, hop, Instr.buildSlice, Sem.run_bind, Result.andThen_ok, run_underlying hu, hsz, hgt, if_false, if_neg h0, hzr, hmp, h1, Sem.run_pure, newRow, run_newObj]
      rfl
  refine wp_val hr ⟨_, hk, ?_⟩
  rw [ho]
  exact rel_newRow hcsz hes0 h2 h3 h4 h5 hb hst hz hcs (by unfold lim; have : n ≤ n * es := Nat.le_mul_of_pos_right _ hes0; omega) hd hx
/-- make -/
theorem opS_make {tb : Tb} (htb : TbOk P tb) {t e : TypeId} {es eb : Nat} {ez : List V} {x y : Operand} {d n : Nat} {k k' : IntKind} (hop : o.op = .makeSlice t x y) (ht : tb t = some (.sl e es eb ez)) (h1 : opV σ x = .int k n) (h2 : opV σ y = .int k' n) (hn : n ≤ lim)
    (ho : o.dst = some d) (hd : d < nt) (hx : d ∉ bx) (hk : K (upd σ d (.own e n (zrow ez es n)))) : OpS P nt bx base St0 w0 o σ K := by
  rintro a w Q ⟨St, B, h, hb, hst, hz⟩
  have hcsz := csz_of (htb _ _ ht)
  obtain ⟨i, j, zv, hi, _, _, hu, hj, hjz, hes, heb, hzl, hlz, hes0, heb0, heb1⟩ := htb _ _ ht
  have hrow := zrow_ok (hzl w St) hes0 hlz n
  have e1 : a.eval x = .int k n := by obtain ⟨b, hx⟩ := opnd h x; rw [h1] at hx; exact slot_int hx
  have e2 : a.eval y = .int k' n := by obtain ⟨b, hy⟩ := opnd h y; rw [h2] at hy; exact slot_int hy
  have hr : (execOp a.eval o).run P w = .ok (.value (.slice (some ⟨w.heap.size, 0, none⟩) n n)) (w.alloc (.cells ((Array.range (n * es)).map (zv.cells[· % zv.cells.size]!)) e)) := by
    have hbig : (j.bytes : Int) * (n : Int) ≤ 281474976710656 := by
      rw [heb]
      have h3 : eb * n ≤ 128 * 1099511627776 := Nat.mul_le_mul heb1 hn
      have h4 : ((eb * n : Nat) : Int) = (eb : Int) * n := by simp
      rw [← h4]
      omega
    have h5 := run_make (P := P) w t e j zv hu hj hjz k k' n n (by omega) (Int.le_refl _) hbig (by unfold lim at hn; omega)
    simp only [Int.toNat_natCast, hes] at h5
    simp only [execOp, hop, e1, e2, Sem.run_bind, h5, Result.andThen_ok, Sem.run_pure]
    rfl
  refine wp_val hr ⟨_, hk, ?_⟩
  rw [ho]
  exact rel_newRow hcsz hes0 h hrow List.nodup_nil (by simp) hb hst hz (by simp [zrow]) hn hd hx
/-- what an append adds -/
def appY : V → List V
  | .own _ _ ds => ds
  | .dat _ ds => ds.map dg1
  | .arg _ ds => ds.map dg1
  | .via _ ds => ds
  | _ => []
theorem app_src {c : V} {v : Value} {bs : List Nat} {m es : Nat} {ds : List V} (h : Ow P w St c v bs) (hc : slOf c = some (m, ds)) (hl : ds.length = m * es) (hes : 0 < es) (hn : bs.Nodup) :
    ∃ us b2, RowAt w es v m us ∧ OwRow P w St (appY c) us b2 ∧ b2.Nodup ∧ ∀ g ∈ b2, g ∈ bs := by
  have key : ∀ us : List Value, Rd w St (.dat m ds) v → us.length = ds.length → (∀ b off A cp, v = .slice A m cp → A = some ⟨b, off, none⟩ → RdRow w St b off ds → ∀ (j : Nat) (u : Value), us[j]? = some u → w.cell? ⟨b, off + j, none⟩ = some u) → RowAt w es v m us := by
    intro us hr hlu hcell
    obtain ⟨hm, A, cp, rfl, _, hrow, h0⟩ := hr
    refine ⟨A, cp, rfl, by unfold maxLen at hm; omega, by rw [hlu, hl], fun hp => ?_⟩
    obtain ⟨b, off, rfl, hrr⟩ := hrow hp
    exact ⟨b, off, rfl, hcell b off _ cp rfl rfl hrr⟩
  cases c with
  | own e n cs =>
    simp only [slOf, Option.some.injEq, Prod.mk.injEq] at hc
    obtain ⟨rfl, rfl⟩ := hc
    have hrd := Ow.rd _ h rfl
    obtain ⟨hm, xs, bs', h1, h2, h3, h4, h5⟩ := h
    refine ⟨xs, bs', ?_, h2, ?_, ?_⟩
    · have hx := RowAt.of_own h1
      obtain ⟨A, cp, e1, e2, e3, e4⟩ := hx
      exact ⟨A, cp, e1, e2, by rw [h2.length, hl], e4⟩
    · rw [h3] at hn; exact (List.nodup_append.1 hn).2.1
    · intro g hg; rw [h3]; exact List.mem_append_right _ hg
  | dat n cs =>
    simp only [slOf, Option.some.injEq, Prod.mk.injEq] at hc
    obtain ⟨rfl, rfl⟩ := hc
    obtain ⟨rfl, hr⟩ := h
    have hr' := hr
    obtain ⟨hm, A, cp, rfl, hcp, hrow, h0⟩ := hr
    rcases Nat.eq_zero_or_pos n with hz | hp
    · have := h0 hz
      subst this
      subst hz
      exact ⟨[], [], ⟨A, cp, rfl, by omega, by simp, fun h => absurd h (by omega)⟩, ⟨rfl, rfl⟩, List.nodup_nil, by simp⟩
    · obtain ⟨b, off, rfl, hrr⟩ := hrow hp
      obtain ⟨us, h3, h4⟩ := hrr.list
      refine ⟨us, [], ⟨_, cp, rfl, by unfold maxLen at hm; omega, by rw [h3.length, hl], fun _ => ⟨b, off, rfl, h4⟩⟩, OwRow.ofRd _ h3, List.nodup_nil, by simp⟩
  | arg n cs =>
    have hr : Rd w St (.dat m ds) v := slot_slOf (P := P) (t := fun _ => .bool true) hc h.slot
    simp only [slOf, Option.some.injEq, Prod.mk.injEq] at hc
    obtain ⟨rfl, rfl⟩ := hc
    obtain ⟨rfl, _⟩ := h
    have hr' := hr
    obtain ⟨hm, A, cp, rfl, hcp, hrow, h0⟩ := hr
    rcases Nat.eq_zero_or_pos n with hz | hp
    · have := h0 hz
      subst this
      subst hz
      exact ⟨[], [], ⟨A, cp, rfl, by omega, by simp, fun h => absurd h (by omega)⟩, ⟨rfl, rfl⟩, List.nodup_nil, by simp⟩
    · obtain ⟨b, off, rfl, hrr⟩ := hrow hp
      obtain ⟨us, h3, h4⟩ := hrr.list
      refine ⟨us, [], ⟨_, cp, rfl, by unfold maxLen at hm; omega, by rw [h3.length, hl], fun _ => ⟨b, off, rfl, h4⟩⟩, OwRow.ofRd _ h3, List.nodup_nil, by simp⟩
  | via n cs =>
    simp only [slOf, Option.some.injEq, Prod.mk.injEq] at hc
    obtain ⟨rfl, rfl⟩ := hc
    obtain ⟨hm, A, cp, xs, rfl, hcp, hrow, h2, h0⟩ := h
    refine ⟨xs, bs, ⟨A, cp, rfl, by unfold maxLen at hm; omega, by rw [h2.length, hl], fun hp => ?_⟩, h2, hn, fun _ h => h⟩
    obtain ⟨b, off, rfl, hx⟩ := hrow hp
    exact ⟨b, off, rfl, fun j u hu => (hx j u hu).2⟩
  | _ => cases hc
/-- append -/
theorem opS_append {tb : Tb} (htb : TbOk P tb) {t e : TypeId} {es eb : Nat} {ez : List V} {x y : Operand} {d n m : Nat} {cs ds : List V} (hop : o.op = .call { callee := .builtin .append, args := #[x, y], argTypes := #[t, t] }) (ht : tb t = some (.sl e es eb ez))
    (h1 : opV σ x = .own e n cs) (h2 : slOf (opV (takeS σ x) y) = some (m, ds)) (hds : ds.length = m * es) (hlim : n + m ≤ lim) (ho : o.dst = some d) (hd : d < nt) (hx : d ∉ bx)
    (hk : K (upd (takeS (takeS σ x) y) d (.own e (n + m) (cs ++ appY (opV (takeS σ x) y))))) : OpS P nt bx base St0 w0 o σ K := by
  rintro a w Q ⟨St, B, h, hb, hst, hz⟩
  have hcsz := csz_of (htb _ _ ht)
  obtain ⟨i, j, zv, hi, _, _, hu, hj, hjz, hes, heb, hzl, hlz, hes0, heb0, heb1⟩ := htb _ _ ht
  obtain ⟨b1, B1, w1, q1, n1⟩ := take_op h x (by rw [h1]; rfl)
  rw [List.nil_append] at q1 n1
  have hyv : (opV (takeS σ x) y).isVal = true := by cases hc : opV (takeS σ x) y <;> rw [hc] at h2 <;> first | rfl | cases h2
  obtain ⟨b2, B2, w2, q2, n2⟩ := take_op q1 y hyv
  rw [h1] at w1
  obtain ⟨hnl, xs, bs1, r1, r2, r3, r4, r5⟩ := w1
  rw [hcsz] at r1 r4
  have n12 := List.nodup_append.1 n2
  obtain ⟨us, b3, s1, s2, s3, s4⟩ := app_src w2 h2 hds hes0 n12.2.1
  have hzs : zv.cells.size = es := by rw [← hlz, ← (hzl w St).length, Array.length_toList]
  have hbytes : (n + m) * eb ≤ 140737488355328 := Nat.le_trans (Nat.mul_le_mul hlim heb1) (by unfold lim; omega)
  obtain ⟨v', w', hrun, o1, o2, o3, o4⟩ := run_app' (P := P) w t o.type e zv es eb hu (by simp [hj, hjz, hes, heb]) hzs hes0 heb0 (a.eval x) n xs r1 (a.eval y) m us s1 ((OwRow.rdL _ s2).oneCell) hbytes
  have hr : (execOp a.eval o).run P w = .ok (.value v') w' := by
    simp only [execOp, hop, resolve, invoke, builtin, Sem.run_bind, Sem.run_pure, Result.andThen_ok, List.map_toArray, List.map_cons, List.map_nil, hrun]
  have hxb : ∀ g, (a.eval x).ownBlock = some g → g ∈ b1 := fun g hg => by rw [r3, hg]; simp
  have hext : Ext St w w' := by
    intro b o' hs
    by_cases e1 : some b = (a.eval x).ownBlock
    · exact o4 b e1.symm o' ((r4 b e1.symm o').1 hs)
    · exact World.cell?_of_block (o2.block b (h.st b o' hs) e1)
  have hst1 : ∀ g, g < w.heap.size → (∀ q, (a.eval x).ownBlock = some q → g ≠ q) → ∀ o', (St g o' ∨ (v'.ownBlock = some g ∧ o' < (n + m) * es)) ↔ St g o' := by
    intro g hg hq o'
    refine ⟨fun hh => hh.elim id (fun hh => ?_), .inl⟩
    rcases o3 with e1 | e1
    · rw [hh.1] at e1; exact absurd rfl (hq g e1.symm)
    · rw [hh.1] at e1; simp only [Option.some.injEq] at e1; omega
  have hheap : ∀ g, g < w.heap.size → (∀ q, (a.eval x).ownBlock = some q → g ≠ q) → w'.heap[g]? = w.heap[g]? := fun g hg hq => o2.block g hg (fun e1 => hq g e1.symm rfl)
  have h3 := q2.world (w' := w') (St' := fun b o' => St b o' ∨ (v'.ownBlock = some b ∧ o' < (n + m) * es)) (fun b o' hs => .inl hs) hext o2.size
    (fun s g hg => by
      have hlt := (q2.range s g hg).2
      have hne : ∀ q, (a.eval x).ownBlock = some q → g ≠ q := fun q hq e1 => q2.hapart s g hg (List.mem_append_left _ (e1 ▸ hxb q hq))
      exact ⟨hheap g hlt hne, hst1 g hlt hne⟩)
    (fun b o' hs => by
      rcases hs with hs | hs
      · exact Nat.lt_of_lt_of_le (h.st b o' hs) o2.size
      · exact (o1.lt b hs.1).2)
  have hn1 : ((a.eval x).ownBlock.toList ++ bs1).Nodup := by rw [← r3]; exact n12.1
  have hn1' := List.nodup_append.1 hn1
  have hrng : ∀ g, g ∈ b1 ++ b2 → g < w.heap.size := fun g hg => (q2.hrange g hg).2
  have hbs1 : ∀ g ∈ bs1, g ∈ b1 := fun g hg => by rw [r3]; exact List.mem_append_right _ hg
  have hne1 : ∀ g ∈ bs1, ∀ q, (a.eval x).ownBlock = some q → g ≠ q := fun g hg q hq e1 => hn1'.2.2 q (by rw [hq]; simp) g hg e1.symm
  have hne3 : ∀ g ∈ b3, ∀ q, (a.eval x).ownBlock = some q → g ≠ q := fun g hg q hq e1 => n12.2.2 q (hxb q hq) g (s4 g hg) e1.symm
  have t1 := OwRow.mono (w' := w') (St' := fun b o' => St b o' ∨ (v'.ownBlock = some b ∧ o' < (n + m) * es)) (fun b o' hs => .inl hs) hext _ r2 (fun g hg => by
    have hlt := hrng g (List.mem_append_left _ (hbs1 g hg))
    exact ⟨hheap g hlt (hne1 g hg), hst1 g hlt (hne1 g hg)⟩)
  have t2 := OwRow.mono (w' := w') (St' := fun b o' => St b o' ∨ (v'.ownBlock = some b ∧ o' < (n + m) * es)) (fun b o' hs => .inl hs) hext _ s2 (fun g hg => by
    have hlt := hrng g (List.mem_append_right _ (s4 g hg))
    exact ⟨hheap g hlt (hne3 g hg), hst1 g hlt (hne3 g hg)⟩)
  have hv : Ow P w' (fun b o' => St b o' ∨ (v'.ownBlock = some b ∧ o' < (n + m) * es)) (.own e (n + m) (cs ++ appY (opV (takeS σ x) y))) v' (v'.ownBlock.toList ++ (bs1 ++ b3)) := by
    refine ⟨hlim, xs ++ us, bs1 ++ b3, by rw [hcsz]; exact o1, t1.join t2, rfl, ?_, ?_⟩
    · intro g hg o'
      rw [hcsz]
      refine ⟨fun hh => ?_, fun hh => .inr ⟨hg, hh⟩⟩
      rcases hh with hh | hh
      · rcases o3 with e1 | e1
        · have := (r4 g (by rw [← e1]; exact hg) o').1 hh
          exact Nat.lt_of_lt_of_le this (Nat.mul_le_mul_right _ (by omega))
        · rw [hg] at e1
          simp only [Option.some.injEq] at e1
          have := h.st g o' hh
          omega
      · exact hh.2
    · intro h0
      have hn0 : n = 0 := by omega
      have hm0 : m = 0 := by omega
      rw [r5 hn0]
      have hl0 : us.length = 0 := by
        obtain ⟨_, _, _, _, hl0, _⟩ := s1
        rw [hl0, hm0]; simp
      rw [s2.length] at hl0
      rw [List.eq_nil_of_length_eq_zero hl0]
      rfl
  have hnd3 : (bs1 ++ b3).Nodup := List.nodup_append.2 ⟨hn1'.2.1, s3, fun p hp q hq e1 => n12.2.2 p (hbs1 p hp) q (s4 q hq) e1⟩
  have fin : ∀ hand2, HSim P nt bx base (fun b o' => St b o' ∨ (v'.ownBlock = some b ∧ o' < (n + m) * es)) B2 hand2 (takeS (takeS σ x) y) a w' → (∀ g ∈ v'.ownBlock.toList, g ∈ hand2) → (∀ g ∈ b1 ++ b2, g ∈ hand2) → (∀ g ∈ v'.ownBlock.toList, g ∉ bs1 ++ b3) →
      Rel P nt bx base St0 w0 (upd (takeS (takeS σ x) y) d (.own e (n + m) (cs ++ appY (opV (takeS σ x) y)))) (a.put (some d) v') w' := by
    intro hand2 g1 g2 g3 g4
    refine ⟨_, upd B2 d (v'.ownBlock.toList ++ (bs1 ++ b3)), g1.put hd hx hv.slot ?_ ?_ hv.notBox.1 hv.noRef, ?_, ?_, Nat.le_trans hz o2.size⟩
    · refine List.nodup_append.2 ⟨by cases v'.ownBlock <;> simp, hnd3, fun p hp q hq e1 => g4 p hp (e1 ▸ hq)⟩
    · intro g hg
      rcases List.mem_append.1 hg with hg | hg
      · exact g2 g hg
      · rcases List.mem_append.1 hg with hg | hg
        · exact g3 g (List.mem_append_left _ (hbs1 g hg))
        · exact g3 g (List.mem_append_right _ (s4 g hg))
    · exact hb.grown o2 hz (fun g hg => (q2.hrange g (List.mem_append_left _ (hxb g hg))).1)
    · intro b o' hlt
      rw [← hst b o' hlt]
      exact hst1 b (by omega) (fun q hq e1 => by have := (q2.hrange q (List.mem_append_left _ (hxb q hq))).1; omega) o'
  refine wp_val hr ⟨_, hk, ?_⟩
  rw [ho]
  rcases o3 with e1 | e1
  · refine fin (b1 ++ b2) h3 (fun g hg => ?_) (fun _ h => h) (fun g hg hm => ?_)
    · rw [e1] at hg; rw [r3]; exact List.mem_append_left _ (List.mem_append_left _ hg)
    · rw [e1] at hg
      have hq : (a.eval x).ownBlock = some g := by simpa using hg
      rcases List.mem_append.1 hm with hm | hm
      · exact hne1 g hm g hq rfl
      · exact hne3 g hm g hq rfl
  · have hlt := (o1.lt _ e1).2
    have h4 := h3.fresh (bs := [w.heap.size]) (by simp) (by intro g hg; simp only [List.mem_singleton] at hg; subst hg; exact ⟨hz, hlt⟩)
      (by intro s g hg hm; simp only [List.mem_singleton] at hm; have := (q2.range s g hg).2; omega)
      (by intro g hg hm; simp only [List.mem_singleton] at hm; have := hrng g hg; omega)
    refine fin _ h4 (fun g hg => ?_) (fun g hg => List.mem_append_left _ hg) (fun g hg hm => ?_)
    · rw [e1] at hg; exact List.mem_append_right _ (by simpa using hg)
    · rw [e1] at hg
      have hq : g = w.heap.size := by simpa using hg
      have : g < w.heap.size := by
        rcases List.mem_append.1 hm with hm | hm
        · exact hrng g (List.mem_append_left _ (hbs1 g hm))
        · exact hrng g (List.mem_append_right _ (s4 g hm))
      omega
end
end Go.Proofs.Ytkmkbpphdalgoaa
