/-
  The pure machine, part 5: operations that make memory, write variables, take values up, append and call. Over no program; no conditions.
-/
import Derived.Test.YtkmkbpphdalgoaaPpure
import Derived.Laws.CopyRow
namespace Go.Proofs.Ytkmkbpphdalgoaa
open Go.RowKit
set_option linter.unusedVariables false

/-! ### append, with the old row's cells kept -/
theorem run_app' {P : Program} (w : World) (t ty e : TypeId) (z : Value) (size bytes : Nat) (ht : P.underlying t = some (.slice e))
    (hinfo : (P.info? e).map (fun i => (i.zero, i.size, i.bytes)) = some (some z, size, bytes)) (hzs : z.cells.size = size) (hsz : 0 < size) (hby : 0 < bytes)
    (v : Value) (n : Nat) (xs : List Value) (hown : w.ownsRow 0 e size v n xs)
    (vx : Value) (m : Nat) (news : List Value) (hr : RowAt w size vx m news) (h1 : ∀ u ∈ news, u.oneCell' = true) (hbytes : (n + m) * bytes ≤ 140737488355328) :
    ∃ v' w', (Builtin.append_ #[t, t] ty #[v, vx]).run P w = .ok v' w' ∧ w'.ownsRow 0 e size v' (n + m) (xs ++ news) ∧ w.grownBy w' v.ownBlock ∧
      (v'.ownBlock = v.ownBlock ∨ v'.ownBlock = some w.heap.size) ∧ ∀ g, v.ownBlock = some g → ∀ o, o < n * size → w'.cell? ⟨g, o, none⟩ = w.cell? ⟨g, o, none⟩ := by
  obtain ⟨i, hi, hzz⟩ := Option.map_eq_some_iff.1 hinfo
  simp only [Prod.mk.injEq] at hzz
  obtain ⟨hz, hs, hb⟩ := hzz
  have h63 : n + m ≤ maxLen := by
    have : n + m ≤ (n + m) * bytes := Nat.le_mul_of_pos_right _ hby
    unfold maxLen; omega
  have hr' := hr
  obtain ⟨A, c, rfl, _⟩ := hr'
  obtain ⟨hl, hnone, hsome⟩ := hr.drop_at
  cases A with
  | none =>
    have hm := hnone rfl
    subst hm
    have hn : news = [] := List.eq_nil_of_length_eq_zero (by simpa using hl)
    subst hn
    refine ⟨v, w, ?_, by simpa using hown, World.grownBy.refl w _, .inl rfl, fun _ _ _ _ => rfl⟩
    rcases hown.2 with ⟨rfl, rfl⟩ | ⟨g, cap, cur, rfl, _, _, hnc, _⟩
    · simp [Builtin.append_, run_underlying ht, sizeOf, typeInfo, hi, Builtin.lenOf, Builtin.firstCells]
    · simp [Builtin.append_, run_underlying ht, sizeOf, typeInfo, hi, Builtin.lenOf, Builtin.firstCells, hnc, storeCells]
  | some ad =>
    obtain ⟨v', w', hrun, h2, h3, _, h5⟩ := run_append_own_at (P := P) w 0 t ty e i z size bytes ht hi hz hs hb hzs hsz v n xs hown ad m c news hl (hsome ad rfl) h1 h63 hbytes (Nat.zero_le _)
    refine ⟨v', w', hrun, h2, h3, h5, fun g hg o ho => ?_⟩
    rcases hown.2 with ⟨rfl, rfl⟩ | ⟨g', cap, cur, rfl, _, hh, hnc, hcm, hcs, hx⟩
    · cases hg
    · simp only [Value.ownBlock, Option.some.injEq] at hg
      subst hg
      have hold : w.cell? ⟨g', o, none⟩ = xs[o]? := by
        simp only [World.cell?, hh, Option.isSome_none, Bool.false_eq_true, if_false]
        rw [← hx, List.getElem?_take, if_pos ho]
        simp
      by_cases hroom : n + m ≤ cap
      · subst hs
        have hfit : n * i.size + news.length ≤ cur.size := by rw [hl, hcs, ← Nat.add_mul]; exact Nat.mul_le_mul_right _ hroom
        have hr := run_append_room (P := P) w t ty e i ht hi g' n cap cur hh ad m c news hl (hsome ad rfl) h1 hroom hfit
        rw [hr] at hrun
        injection hrun with e1 e2
        subst e1
        rcases h2.2 with ⟨h, _⟩ | ⟨g2, cap2, cur2, e3, _, hh2, _, _, _, hx2⟩
        · cases h
        · injection e3 with e3 e4 e5
          injection e3 with e3
          injection e3 with e3
          subst e3
          rw [hold]
          simp only [World.cell?, hh2, Option.isSome_none, Bool.false_eq_true, if_false]
          have h7 : (cur2.toList.take ((n + m) * i.size))[o]? = (xs ++ news)[o]? := by rw [hx2]
          rw [List.getElem?_take, if_pos (by rw [Nat.add_mul]; omega), List.getElem?_append_left (by rw [hown.1]; exact ho)] at h7
          simpa using h7
      · subst hs
        have holds : ∀ j u, xs[j]? = some u → w.cell? ((⟨g', 0, none⟩ : Addr).add j) = some u := hown.cells (g := g') rfl
        have hr := run_append_grow (P := P) w t ty e i z ht hi hz ⟨g', 0, none⟩ n cap xs hown.1 holds ad m c news hl (hsome ad rfl) (by omega) (by unfold maxLen at h63; omega) (growslice_fits (by omega) (by rw [hb]; exact hbytes))
        rw [hr] at hrun
        injection hrun with e1 e2
        subst e2
        have hlt : g' < w.heap.size := by
          rcases Nat.lt_or_ge g' w.heap.size with h | h
          · exact h
          · rw [Array.getElem?_eq_none h] at hh; cases hh
        exact (((Below.refl w.heap.size w).drew).alloc (Nat.le_refl _) _).cell (p := ⟨g', o, none⟩) hlt

/-- The slots hold σ; nothing below 'base' has turned since w0. -/
def Rel (P : Program) (nt : Nat) (bx : List Nat) (base : Nat) (St0 : Nat → Nat → Prop) (w0 : World) (σ : PS) (a : Act) (w : World) : Prop :=
  ∃ St B, HSim P nt bx base St B [] σ a w ∧ Below base w0 w ∧ (∀ b o, b < base → (St b o ↔ St0 b o)) ∧ base ≤ w.heap.size
/-- an operation, in the machine: what holds behind it -/
def OpS (P : Program) (nt : Nat) (bx : List Nat) (base : Nat) (St0 : Nat → Nat → Prop) (w0 : World) (o : Oper) (σ : PS) (K : PS → Prop) : Prop :=
  ∀ a w Q, Rel P nt bx base St0 w0 σ a w → o.wp P a w (fun a' w' => ∃ σ', K σ' ∧ Rel P nt bx base St0 w0 σ' a' w') Q
section
variable {P : Program} {nt base : Nat} {bx : List Nat} {St St' St0 : Nat → Nat → Prop} {B : Nat → List Nat} {hand : List Nat} {σ : PS} {a : Act} {w w' w0 : World} {K : PS → Prop} {Q : Exit → Act → World → Prop} {o : Oper}
theorem HSim.grow (h : HSim P nt bx base St B hand σ a w) (hb : Below w.heap.size w w') (hst : ∀ b o, b < w.heap.size → (St' b o ↔ St b o)) (hst' : ∀ b o, St' b o → b < w'.heap.size) : HSim P nt bx base St' B hand σ a w' :=
  h.world (fun b o hs => (hst b o (h.st b o hs)).2 hs) (fun b o hs => hb.cell (p := ⟨b, o, none⟩) (h.st b o hs)) hb.size (fun s g hg => ⟨hb.block g (h.range s g hg).2, fun o => hst g o (h.range s g hg).2⟩) hst'
theorem wp_val {K' : Act → World → Prop} {v : Value} (hr : (execOp a.eval o).run P w = .ok (.value v) w') (hk : K' (a.put o.dst v) w') : o.wp P a w K' Q := by
  unfold Oper.wp; rw [hr]; exact hk
theorem wp_skp {K' : Act → World → Prop} (hr : (execOp a.eval o).run P w = .ok .skip w') (hk : K' (a.put o.dst undef) w') : o.wp P a w K' Q := by
  unfold Oper.wp; rw [hr]; exact hk
theorem opS_pure {tb : Tb} (htb : TbOk P tb) {d : Nat} (ho : o.dst = some d) (hd : d < nt) (hx : d ∉ bx) (hc : pc tb σ o.op) (hk : K (upd σ d (pv tb σ o.op))) : OpS P nt bx base St0 w0 o σ K := by
  rintro a w Q ⟨St, B, h, hb, hst, hz⟩
  obtain ⟨v, hr, hs, hn, hcr⟩ := pure_run htb h o hc
  refine wp_val hr ⟨_, hk, St, upd B d [], ?_, hb, hst, hz⟩
  rw [ho]
  exact h.put hd hx hs List.nodup_nil (by simp) hn hcr
/-- what an operand gives up -/
def takeS (σ : PS) : Operand → PS
  | .tmp s => upd σ s (dg (σ s))
  | _ => σ
theorem take_op (h : HSim P nt bx base St B hand σ a w) (x : Operand) (hv : (opV σ x).isVal = true) :
    ∃ bs B', Ow P w St (opV σ x) (a.eval x) bs ∧ HSim P nt bx base St B' (hand ++ bs) (takeS σ x) a w ∧ (hand ++ bs).Nodup := by
  cases x with
  | tmp s =>
    obtain ⟨h1, h2⟩ := h.take s hv
    exact ⟨B s, _, h1, h2, h2.hnodup⟩
  | const v => exact ⟨[], B, (cV_slot (a := a) v).ow hv, by simpa [takeS] using h, by simpa using h.hnodup⟩
  | global g => cases hv
  | func f => cases hv
/-- assign and move: the value goes over -/
theorem opS_take {x : Operand} {d : Nat} (hop : o.op = .assign x ∨ o.op = .move x) (ho : o.dst = some d) (hd : d < nt) (hx : d ∉ bx) (hv : (opV σ x).isVal = true) (hk : K (upd (takeS σ x) d (opV σ x))) : OpS P nt bx base St0 w0 o σ K := by
  rintro a w Q ⟨St, B, h, hb, hst, hz⟩
  obtain ⟨bs, B', h1, h2, h3⟩ := take_op h x hv
  have hr : (execOp a.eval o).run P w = .ok (.value (a.eval x)) w := by rcases hop with e | e <;> simp [execOp, e]
  refine wp_val hr ⟨_, hk, St, upd B' d bs, ?_, hb, hst, hz⟩
  rw [ho]
  exact h2.put hd hx h1.slot (by simpa using h3) (by simp) h1.notBox.1 h1.noRef
/-- a nil slice is an empty slice of the call's own -/
theorem opS_nil {d : Nat} {e : TypeId} (hop : o.op = .assign (.const (.slice none 0 0)) ∨ o.op = .move (.const (.slice none 0 0))) (ho : o.dst = some d) (hd : d < nt) (hx : d ∉ bx) (hk : K (upd σ d (.own e 0 []))) : OpS P nt bx base St0 w0 o σ K := by
  rintro a w Q ⟨St, B, h, hb, hst, hz⟩
  have hr : (execOp a.eval o).run P w = .ok (.value (.slice none 0 0)) w := by rcases hop with e | e <;> simp [execOp, e, Act.eval]
  refine wp_val hr ⟨_, hk, St, upd B d [], ?_, hb, hst, hz⟩
  rw [ho]
  have hw : Ow P w St (.own e 0 []) (.slice none 0 0) [] := ⟨Nat.zero_le _, [], [], World.ownsRow_nil _ _ _ _, ⟨rfl, rfl⟩, rfl, (fun g hg => by cases hg), fun _ => rfl⟩
  exact h.put hd hx hw.slot List.nodup_nil (by simp) hw.notBox.1 hw.noRef
/-- the parts of several results -/
theorem OwTup.split : ∀ (cs : List V) (i : Nat) {us : List Value} {bs : List Nat} {c : V}, OwTup P w St cs us bs → cs[i]? = some c → cs.all V.isArg = true → bs.Nodup → ∃ u b1 b2, us[i]? = some u ∧ Ow P w St c u b1 ∧ OwTup P w St (cs.set i (dg2 c)) us b2 ∧ b1.Nodup ∧ b2.Nodup ∧ (∀ g ∈ b1, g ∈ bs) ∧ (∀ g ∈ b2, g ∈ bs) ∧ ∀ g ∈ b1, g ∉ b2
  | [], i, _, _, _, _, e, _, _ => by simp at e
  | d :: cs, 0, _, _, c, ⟨u, us', b1, b2, e1, e2, h1, h2⟩, e, ha, hn => by
    simp only [List.getElem?_cons_zero, Option.some.injEq] at e
    subst e
    simp only [List.all_cons, Bool.and_eq_true] at ha
    rw [e2] at hn ⊢
    have hn' := List.nodup_append.1 hn
    refine ⟨u, b1, b2, by rw [e1]; rfl, h1, ⟨u, us', [], b2, e1, rfl, h1.argd ha.1, h2⟩, hn'.1, hn'.2.1, fun g hg => List.mem_append_left _ hg, fun g hg => List.mem_append_right _ hg, fun g hg hg' => hn'.2.2 g hg g hg' rfl⟩
  | d :: cs, i + 1, _, _, c, ⟨u, us', b1, b2, e1, e2, h1, h2⟩, e, ha, hn => by
    simp only [List.all_cons, Bool.and_eq_true] at ha
    rw [e2] at hn ⊢
    have hn' := List.nodup_append.1 hn
    obtain ⟨x, c1, c2, h3, h4, h5, n1, n2, s1, s2, ap⟩ := OwTup.split cs i h2 (by simpa using e) ha.2 hn'.2.1
    refine ⟨x, c1, b1 ++ c2, by rw [e1]; simpa using h3, h4, ⟨u, us', b1, c2, e1, rfl, h1, h5⟩, n1, ?_, fun g hg => List.mem_append_right _ (s1 g hg), fun g hg => ?_, fun g hg hg' => ?_⟩
    · exact List.nodup_append.2 ⟨hn'.1, n2, fun x hx y hy exy => hn'.2.2 x hx y (s2 y hy) exy⟩
    · rcases List.mem_append.1 hg with h | h
      · exact List.mem_append_left _ h
      · exact List.mem_append_right _ (s2 g h)
    · rcases List.mem_append.1 hg' with h | h
      · exact hn'.2.2 g h g (s1 g hg) rfl
      · exact ap g hg h
/-- a slot gives up a part -/
theorem HSim.part (h : HSim P nt bx base St B hand σ a w) (s : Nat) (hold : bxOf (σ s) = none) {c : V} {b1 b2 : List Nat} (hc : SlotR P w St (tm a) c (tm a s) b2) (hnb : bxOf c = none) (hcr : refOf c = none)
    (n1 : b1.Nodup) (n2 : b2.Nodup) (s1 : ∀ g ∈ b1, g ∈ B s) (s2 : ∀ g ∈ b2, g ∈ B s) (hap : ∀ g ∈ b1, g ∉ b2) : HSim P nt bx base St (upd B s b2) (hand ++ b1) (upd σ s c) a w := by
  have hB : ∀ q, ∀ g ∈ upd B s b2 q, g ∈ B q := by
    intro q g hg
    by_cases e : q = s
    · subst e; rw [upd_same] at hg; exact s2 g hg
    · rw [upd_ne _ _ e] at hg; exact hg
  exact
  { h with
    slot := fun q => by
      by_cases e : q = s
      · subst e; rw [upd_same, upd_same]; exact hc
      · rw [upd_ne _ _ e, upd_ne _ _ e]; exact h.slot q
    boxes := fun q cs e => by
      by_cases eq : q = s
      · subst eq; rw [upd_same, hnb] at e; cases e
      · rw [upd_ne _ _ eq] at e; exact h.boxes q cs e
    crefs := fun q b e => by
      by_cases eq : q = s
      · subst eq; rw [upd_same, hcr] at e; cases e
      · rw [upd_ne _ _ eq] at e
        obtain ⟨cs, hcs⟩ := h.crefs q b e
        refine ⟨cs, ?_⟩
        rw [upd_ne _ _ (fun eb => by subst eb; rw [hold] at hcs; cases hcs)]; exact hcs
    nodup := fun q => by
      by_cases e : q = s
      · subst e; rw [upd_same]; exact n2
      · rw [upd_ne _ _ e]; exact h.nodup q
    apart := fun q r hqr g hg hg' => h.apart q r hqr g (hB q g hg) (hB r g hg')
    hnodup := List.nodup_append.2 ⟨h.hnodup, n1, fun x hx y hy e => by subst e; exact h.hapart s x (s1 x hy) hx⟩
    hapart := fun q g hg hm => by
      rcases List.mem_append.1 hm with hm | hm
      · exact h.hapart q g (hB q g hg) hm
      · by_cases e : q = s
        · subst e; rw [upd_same] at hg; exact hap g hm hg
        · exact h.apart q s e g (hB q g hg) (s1 g hm)
    range := fun q g hg => h.range q g (hB q g hg)
    hrange := fun g hg => by
      rcases List.mem_append.1 hg with hg | hg
      · exact h.hrange g hg
      · exact h.range s g (s1 g hg) }
/-- one of several results -/
theorem opS_extract {s i d : Nat} (hop : o.op = .extract (.tmp s) i) (ho : o.dst = some d) (hd : d < nt) (hx : d ∉ bx) {cs : List V} {c : V} (hs : σ s = .tup cs) (hi : cs[i]? = some c) (ha : cs.all V.isArg = true)
    (hk : K (upd (upd σ s (.tup (cs.set i (dg2 c)))) d c)) : OpS P nt bx base St0 w0 o σ K := by
  rintro a w Q ⟨St, B, h, hb, hst, hz⟩
  have hsl := h.slot s
  rw [hs] at hsl
  obtain ⟨us, e1, h1⟩ := hsl
  obtain ⟨u, b1, b2, h2, h3, h4, n1, n2, s1, s2, ap⟩ := OwTup.split cs i h1 hi ha (h.nodup s)
  have hr : (execOp a.eval o).run P w = .ok (.value u) w := by
    have e2 : a.eval (.tmp s) = .tuple us.toArray := e1
    simp [execOp, hop, e2, Instr.extract, h2]
  have h5 := h.part s (by rw [hs]; rfl) (c := .tup (cs.set i (dg2 c))) (b1 := b1) (b2 := b2) ⟨us, e1, h4⟩ rfl rfl n1 n2 s1 s2 ap
  refine wp_val hr ⟨_, hk, St, upd (upd B s b2) d b1, ?_, hb, hst, hz⟩
  rw [ho]
  exact h5.put hd hx h3.slot n1 (by simp) h3.notBox.1 h3.noRef
theorem OwRow.app : ∀ {cs ds : List V} {us : List Value} {bs : List Nat}, OwRow P w St (cs ++ ds) us bs → ∃ us1 us2 b1 b2, us = us1 ++ us2 ∧ bs = b1 ++ b2 ∧ OwRow P w St cs us1 b1 ∧ OwRow P w St ds us2 b2
  | [], ds, us, bs, h => ⟨[], us, [], bs, rfl, rfl, ⟨rfl, rfl⟩, h⟩
  | c :: cs, ds, us, bs, ⟨u, us', b1, b2, e1, e2, hc, h1, h2⟩ => by
    obtain ⟨us1, us2, c1, c2, e3, e4, h3, h4⟩ := OwRow.app h2
    exact ⟨u :: us1, us2, b1 ++ c1, c2, by rw [e1, e3]; rfl, by rw [e2, e4, List.append_assoc], ⟨u, us1, b1, c1, rfl, rfl, hc, h1, h3⟩, h4⟩
theorem OwRow.join : ∀ {cs ds : List V} {us1 us2 : List Value} {b1 b2 : List Nat}, OwRow P w St cs us1 b1 → OwRow P w St ds us2 b2 → OwRow P w St (cs ++ ds) (us1 ++ us2) (b1 ++ b2)
  | [], ds, _, us2, _, b2, ⟨e1, e2⟩, h => by subst e1 e2; exact h
  | c :: cs, ds, _, us2, _, b2, ⟨u, us', c1, c2, e1, e2, hc, h1, h2⟩, h => ⟨u, us' ++ us2, c1, c2 ++ b2, by rw [e1]; rfl, by rw [e2, List.append_assoc], hc, h1, OwRow.join h2 h⟩
/-- the cells of a value -/
def cellsV : V → List V
  | .agg cs => cs
  | c => [c]
theorem Ow.cells {c : V} {v : Value} {bs : List Nat} (h : Ow P w St c v bs) (hc : c.isArg = true) : OwRow P w St (cellsV c) v.cells.toList bs := by
  have key : ∀ c : V, c.isCell = true → Ow P w St c v bs → OwRow P w St [c] v.cells.toList bs := by
    intro c hc h
    have h1 := (Ow.rd c h hc).oneCell
    have : v.cells = #[v] := by cases v <;> first | rfl | cases h1
    rw [this]
    exact ⟨v, [], bs, [], rfl, by simp, hc, h, rfl, rfl⟩
  cases c <;> first | exact key _ hc h | cases hc | skip
  obtain ⟨us, rfl, h⟩ := h
  exact h
/-- cells from off on are replaced -/
def repl {α : Type} (cs : List α) (off : Nat) (new : List α) : List α := cs.take off ++ new ++ cs.drop (off + new.length)
theorem repl_length {α : Type} {cs new : List α} {off : Nat} (h : off + new.length ≤ cs.length) : (repl cs off new).length = cs.length := by
  simp [repl]; omega
theorem parts3 {α : Type} (cs : List α) (off n : Nat) : cs = cs.take off ++ ((cs.drop off).take n ++ cs.drop (off + n)) := by
  rw [← List.drop_drop, List.take_append_drop, List.take_append_drop]
/-- the world turns in the block of a variable -/
theorem HSim.boxW (h : HSim P nt bx base St B hand σ a w) {s g : Nat} {cs cs' : List V} {c' : V} {bs' : List Nat} (hcs : bxOf (σ s) = some cs) (hcs' : bxOf c' = some cs') (hB : B s = g :: bs') (hng : ∀ o, ¬ St g o) (hkeep : ∀ k, k ≠ g → w'.heap[k]? = w.heap[k]?) (hz : w'.heap.size = w.heap.size)
    {bs : List Nat} {hand' : List Nat} (hc : SlotR P w' St (tm a) c' (tm a s) bs)
    (hn : bs.Nodup) (hs : ∀ g ∈ bs, g ∈ B s ∨ g ∈ hand) (hn' : hand'.Nodup) (hs' : ∀ g ∈ hand', g ∈ B s ∨ g ∈ hand) (hap : ∀ g ∈ bs, g ∉ hand') :
    HSim P nt bx base St (upd B s bs) hand' (upd σ s c') a w' := by
  have hrf : refOf c' = none := by cases c' <;> first | rfl | cases hcs'
  have hbox : ∀ b, (∃ cs, bxOf (σ b) = some cs) → ∃ cs'', bxOf (upd σ s c' b) = some cs'' := fun b ⟨cs, e⟩ => by
    by_cases eb : b = s
    · subst eb; exact ⟨cs', by rw [upd_same]; exact hcs'⟩
    · exact ⟨cs, by rw [upd_ne _ _ eb]; exact e⟩
  have hout : ∀ q, q ≠ s → ∀ g ∈ B q, ¬ (g ∈ B s ∨ g ∈ hand) := fun q hq g hg hm => by
    rcases hm with hm | hm
    · exact h.apart q s hq g hg hm
    · exact h.hapart q g hg hm
  refine
  { size := h.size
    defers := h.defers
    slot := fun q => by
      by_cases e : q = s
      · subst e; rw [upd_same, upd_same]; exact hc
      · rw [upd_ne _ _ e, upd_ne _ _ e]
        refine (h.slot q).mono (fun _ _ h => h) (fun b o hs => ?_) (fun k hk => ⟨hkeep k (fun ek => ?_), fun _ => Iff.rfl⟩) (fun _ _ => rfl)
        · exact World.cell?_of_block (hkeep b (fun eb => hng o (eb ▸ hs)))
        · subst ek; exact h.apart q s e k hk (by rw [hB]; simp)
    boxes := fun q cs e => by
      by_cases eq : q = s
      · subst eq; exact h.boxes _ _ hcs
      · rw [upd_ne _ _ eq] at e; exact h.boxes q cs e
    crefs := fun q b e => by
      by_cases eq : q = s
      · subst eq; rw [upd_same, hrf] at e; cases e
      · rw [upd_ne _ _ eq] at e; exact hbox b (h.crefs q b e)
    nodup := fun q => by
      by_cases e : q = s
      · subst e; rw [upd_same]; exact hn
      · rw [upd_ne _ _ e]; exact h.nodup q
    apart := fun q r hqr g hg hg' => by
      by_cases e : q = s
      · subst e; rw [upd_same] at hg; rw [upd_ne _ _ (Ne.symm hqr)] at hg'; exact hout r (Ne.symm hqr) g hg' (hs g hg)
      · rw [upd_ne _ _ e] at hg
        by_cases e' : r = s
        · subst e'; rw [upd_same] at hg'; exact hout q e g hg (hs g hg')
        · rw [upd_ne _ _ e'] at hg'; exact h.apart q r hqr g hg hg'
    hnodup := hn'
    hapart := fun q g hg hm => by
      by_cases e : q = s
      · subst e; rw [upd_same] at hg; exact hap g hg hm
      · rw [upd_ne _ _ e] at hg; exact hout q e g hg (hs' g hm)
    range := fun q g hg => by
      rw [hz]
      by_cases e : q = s
      · subst e; rw [upd_same] at hg
        rcases hs g hg with h1 | h1
        · exact h.range _ g h1
        · exact h.hrange g h1
      · rw [upd_ne _ _ e] at hg; exact h.range q g hg
    hrange := fun g hg => by
      rw [hz]
      rcases hs' g hg with h1 | h1
      · exact h.range _ g h1
      · exact h.hrange g h1
    st := fun b o hs => by rw [hz]; exact h.st b o hs }
end
end Go.Proofs.Ytkmkbpphdalgoaa
