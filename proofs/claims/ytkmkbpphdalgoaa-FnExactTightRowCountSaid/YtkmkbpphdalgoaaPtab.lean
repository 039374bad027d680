/-
  The pure machine, part 10: how a type's row of the table is shown. Over no program; no conditions.
-/
import Derived.Test.YtkmkbpphdalgoaaPdrw
namespace Go.Proofs.Ytkmkbpphdalgoaa
open Go.RowKit
set_option linter.unusedVariables false
section
variable {P : Program}
def Zc (P : Program) (c : V) (u : Value) : Prop := c.isCell = true ∧ ∀ w St, Ow P w St c u []
theorem zc_int (k : IntKind) : Zc P (.int k 0) (.int k 0) := ⟨rfl, fun _ _ => ⟨rfl, rfl⟩⟩
theorem zc_bool : Zc P (.bool false) (.bool false) := ⟨rfl, fun _ _ => ⟨rfl, rfl⟩⟩
theorem zc_str : Zc P (.str []) (.string ⟨#[]⟩) := ⟨rfl, fun _ _ => ⟨rfl, rfl, Nat.zero_le _⟩⟩
theorem zc_own (e : TypeId) : Zc P (.own e 0 []) (.slice none 0 0) := ⟨rfl, fun _ _ => nil_ow e⟩
theorem zl_nil : ZL P [] [] := fun _ _ => ⟨rfl, rfl⟩
theorem zl_cons {c : V} {cs : List V} {u : Value} {us : List Value} (h : Zc P c u) (hs : ZL P cs us) : ZL P (c :: cs) (u :: us) := fun w St => ⟨u, us, [], [], rfl, rfl, h.1, h.2 w St, hs w St⟩
theorem agr_int {t : TypeId} (k : IntKind) (hi : (P.info? t).map (fun i => (i.size, i.zero)) = some (1, some (.int k 0))) (hu : P.underlying t = some (.int k)) : Agr P t (.sc (.int k 0)) := by
  obtain ⟨i, h1, h2⟩ := Option.map_eq_some_iff.1 hi
  simp only [Prod.mk.injEq] at h2
  exact ⟨i, _, _, h1, h2.1, h2.2, zl_cons (zc_int k) zl_nil, hu, rfl⟩
theorem agr_bool {t : TypeId} (hi : (P.info? t).map (fun i => (i.size, i.zero)) = some (1, some (.bool false))) (hu : P.underlying t = some .bool) : Agr P t (.sc (.bool false)) := by
  obtain ⟨i, h1, h2⟩ := Option.map_eq_some_iff.1 hi
  simp only [Prod.mk.injEq] at h2
  exact ⟨i, _, _, h1, h2.1, h2.2, zl_cons zc_bool zl_nil, hu, rfl⟩
theorem agr_str {t : TypeId} (hi : (P.info? t).map (fun i => (i.size, i.zero)) = some (1, some (.string ⟨#[]⟩))) (hu : P.underlying t = some .string) : Agr P t (.sc (.str [])) := by
  obtain ⟨i, h1, h2⟩ := Option.map_eq_some_iff.1 hi
  simp only [Prod.mk.injEq] at h2
  exact ⟨i, _, _, h1, h2.1, h2.2, zl_cons zc_str zl_nil, hu, rfl⟩
theorem agr_st {t : TypeId} {n : Nat} {z : List V} {us : List Value} {fs : List (Nat × Nat)} {gs : Array Field} (hi : (P.info? t).map (fun i => (i.size, i.zero)) = some (n, some (.agg us.toArray))) (hz : ZL P z us) (hu : P.underlying t = some (.struct gs))
    (hf : gs.toList.map (fun f => (f.offset, csz P f.type)) = fs) (hp : fs.all (fun f => decide (0 < f.2)) = true) : Agr P t (.st n z fs) := by
  obtain ⟨i, h1, h2⟩ := Option.map_eq_some_iff.1 hi
  simp only [Prod.mk.injEq] at h2
  exact ⟨i, _, gs, h1, h2.1, h2.2, by simpa using hz, hu, hf, fun f hf => by have := List.all_eq_true.1 hp f hf; simpa using this⟩
theorem agr_sl {t e : TypeId} {es eb : Nat} {ez : List V} {zv : Value} (hi : (P.info? t).map (fun i => (i.size, i.zero)) = some (1, some (.slice none 0 0))) (hu : P.underlying t = some (.slice e))
    (hj : (P.info? e).map (fun i => (i.size, i.zero, i.bytes)) = some (es, some zv, eb)) (hz : ZL P ez zv.cells.toList) (hl : ez.length = es) (h0 : 0 < es) (h1 : 0 < eb) (h2 : eb ≤ 128) : Agr P t (.sl e es eb ez) := by
  obtain ⟨i, h3, h4⟩ := Option.map_eq_some_iff.1 hi
  obtain ⟨j, h5, h6⟩ := Option.map_eq_some_iff.1 hj
  simp only [Prod.mk.injEq] at h4 h6
  exact ⟨i, j, zv, h3, h4.1, h4.2, hu, h5, h6.2.1, h6.1, h6.2.2, hz, hl, h0, h1, h2⟩
end

theorem thenQ_n (K : PS → Prop) (Q : Exit → PS → Prop) (σ : PS) : thenQ K Q .normal σ = K σ := rfl
theorem thenQ_e (K : PS → Prop) (Q : Exit → PS → Prop) (σ : PS) (i : Nat) : thenQ K Q (.exit i) σ = Q (.exit i) σ := rfl
theorem thenQ_r (K : PS → Prop) (Q : Exit → PS → Prop) (σ : PS) : thenQ K Q .ret σ = Q .ret σ := rfl
theorem blockQ_n (i : Nat) (Q : Exit → PS → Prop) (σ : PS) : blockQ i Q .normal σ = Q .normal σ := rfl
theorem blockQ_e (i j : Nat) (Q : Exit → PS → Prop) (σ : PS) : blockQ i Q (.exit j) σ = if j = i then Q .normal σ else Q (.exit j) σ := rfl
theorem blockQ_r (i : Nat) (Q : Exit → PS → Prop) (σ : PS) : blockQ i Q .ret σ = Q .ret σ := rfl
theorem upd_at {α : Type} (f : Nat → α) (d : Nat) (x : α) (s : Nat) : upd f d x s = if s = d then x else f s := rfl
theorem initS_0 (c : V) (cs : List V) : initS (c :: cs) 0 = c := rfl
theorem initS_s (c : V) (cs : List V) (n : Nat) : initS (c :: cs) (n + 1) = initS cs n := rfl
theorem initS_n (n : Nat) : initS [] n = .tup [] := rfl
theorem initS_1 (c d : V) (cs : List V) : initS (c :: d :: cs) 1 = d := rfl
theorem initS_2 (c d e : V) (cs : List V) : initS (c :: d :: e :: cs) 2 = e := rfl
theorem initS_3 (c d e f : V) (cs : List V) : initS (c :: d :: e :: f :: cs) 3 = f := rfl
/-- beyond the arguments -/
theorem initS_ge (cs : List V) (n : Nat) (h : cs.length ≤ n) : initS cs n = .tup [] := by simp [initS, List.getElem?_eq_none h]
theorem isB_t (c : Bool) : isB true (.bool c) = c := by cases c <;> rfl
theorem isB_f (c : Bool) : isB false (.bool c) = !c := by cases c <;> rfl
theorem isB_u (b : Bool) (cs : List V) : isB b (.tup cs) = false := rfl
/-- a guarded operation's two ways; simp looks into them only when the guard is known -/
def gIf (c : Bool) (p q : Prop) (_ : Tag (p ∧ q)) : Prop := (c = true → p) ∧ (c = false → q)
theorem gIf_t (p q : Prop) (t : Tag (p ∧ q)) : gIf true p q t = p := propext ⟨fun h => h.1 rfl, fun h => ⟨fun _ => h, fun e => by cases e⟩⟩
theorem gIf_f (p q : Prop) (t : Tag (p ∧ q)) : gIf false p q t = q := propext ⟨fun h => h.2 rfl, fun h => ⟨(fun e => by cases e), fun _ => h⟩⟩
theorem pureS_eq (tb : Tb) (o : LO) (σ : PS) (K : PS → Prop) : pureS tb o σ K = (match o.dst with
  | none => False
  | some d => match o.g with
    | none => pc tb σ o.op ∧ K (upd σ d (pv tb σ o.op))
    | some (none, _) => False
    | some (some q, b) => known (σ q) = true ∧ gIf (isB b (σ q)) (pc tb σ o.op ∧ K (upd σ d (pv tb σ o.op))) (K (upd σ d (.tup []))) ⟨0⟩) := rfl
theorem callS_eq (P : Program) (o : LO) (f : FuncId) (args : List Operand) (σ : PS) (K : PS → Prop) : callS P o f args σ K = (match o.g with
  | none => args.all (fun x => (opV σ x).isArg) = true ∧ ∃ r, SoundAt P f (args.map fun x => er (opV σ x)) r ∧ LaterT (K (putD σ o.dst r)) ⟨0⟩
  | some (q, b) => match q, o.dst with
    | some q, some d => known (σ q) = true ∧ gIf (isB b (σ q)) (args.all (fun x => (opV σ x).isArg) = true ∧ ∃ r, SoundAt P f (args.map fun x => er (opV σ x)) r ∧ LaterT (K (upd σ d r)) ⟨0⟩) (K (upd σ d (.tup []))) ⟨0⟩
    | _, _ => False) := rfl
theorem zrow_0 (ez : List V) (es : Nat) : zrow ez es 0 = [] := by simp [zrow]
theorem zrow_s {ez : List V} {es n : Nat} (h : ez.length = es) : zrow ez es (n + 1) = ez ++ zrow ez es n := by
  unfold zrow
  rw [Nat.add_mul, Nat.one_mul, Nat.add_comm, List.range_add, List.map_append, List.map_map]
  congr 1
  · apply List.ext_getElem
    · simp [h]
    · intro i h1 h2
      simp only [List.length_map, List.length_range] at h1
      simp [Nat.mod_eq_of_lt h1, h2]
  · apply List.map_congr_left
    intro i _
    simp
theorem lim_lit {n : Nat} (h : n < 1000) : (n ≤ lim) = True := eq_true (by unfold lim; omega)
theorem ex_box (l : List V) : (∃ cs, some l = some cs) = True := eq_true ⟨l, rfl⟩
theorem nb_int (k : IntKind) (n : Int) : notBox (.int k n) = true := rfl
theorem nb_bool (b : Bool) : notBox (.bool b) = true := rfl
theorem nb_str (s : List UInt8) : notBox (.str s) = true := rfl
theorem nb_own (e : TypeId) (n : Nat) (cs : List V) : notBox (.own e n cs) = true := rfl
theorem nb_dat (n : Nat) (cs : List V) : notBox (.dat n cs) = true := rfl
theorem nb_arg (n : Nat) (cs : List V) : notBox (.arg n cs) = true := rfl
theorem nb_via (n : Nat) (cs : List V) : notBox (.via n cs) = true := rfl
theorem nb_agg (cs : List V) : notBox (.agg cs) = true := rfl
theorem nb_tup (cs : List V) : notBox (.tup cs) = true := rfl
theorem nb_undef  : notBox (.undef) = true := rfl
theorem nb_same (s : Nat) : notBox (.same s) = true := rfl
theorem nb_cref (s o : Nat) : notBox (.cref s o) = true := rfl
theorem nb_adr (cs : List V) (o : Nat) : notBox (.adr cs o) = true := rfl
theorem nb_box (cs : List V) : notBox (.box cs) = false := rfl
theorem nb_uni (e : TypeId) (n : Nat) (cs : List V) : notBox (.uni e n cs) = false := rfl
attribute [go_sem] nb_int nb_bool nb_str nb_own nb_dat nb_arg nb_via nb_agg nb_tup nb_undef nb_same nb_cref nb_adr nb_box nb_uni
attribute [go_sem] lim_lit ex_box gIf_t gIf_f zrow_0 zrow_s
attribute [go_sem] evS evD adP adU opT bas bxOf setBx refOf iaS iaSC lenS lenSC mvV mvC pv pc pvCall pcCall pickV pickC faV' faC' iaV' iaC' loadV' loadC' opV cV binV binC unV unC adV getCells loadV loadC faV faC slOf ixOf iaV iaC sixV sixC lenV lenC bdOf partV partC convV convC mxV mxC
  dg dg1 dg2 V.isVal V.isArg V.isCell known isB_t isB_f isB_u takeS putD upd_at er erL cellsV thenQ_n thenQ_e thenQ_r initS_0 initS_1 initS_2 initS_3 initS_s initS_n blockQ_n blockQ_e blockQ_r TyD.size leftCells ownCells repl zeroL fillP appY resF resL resV retQ kill
attribute [go_sem ↓] evO pureS_eq callS_eq callS' asgS asgU loadS extS stoS allocS boxS buildS bslS makeS makeU appS
end Go.Proofs.Ytkmkbpphdalgoaa
